/- The plain law of the sum: the table's sum, the bytes' steps and the reference's sum, bit by bit, are one. -/
import Derived.Test.YtadodibnjdeckaaWm
import Derived.Test.YtadodibnjdeckaaRp
namespace Go.Proofs.Ytadodibnjdeckaa
open Go.RowKit Go.Proofs.YtadodibnjdeckaaW.PrintWords Go.Proofs.YtadodibnjdeckaaW.PrintLast Go.Proofs.YtadodibnjdeckaaW.PrintMore
set_option linter.unusedVariables false
set_option linter.unusedSimpArgs false

/-! ### The step is linear -/
theorem xor_half (a b : Nat) : (a ^^^ b) / 2 = a / 2 ^^^ b / 2 := by
  have := Nat.xor_div_two_pow (a := a) (b := b) (n := 1)
  simpa using this
theorem xor_mod2 (a b : Nat) : (a ^^^ b) % 2 = (a % 2 + b % 2) % 2 := by
  have := Nat.xor_mod_two_pow (a := a) (b := b) (n := 1)
  rw [Nat.pow_one] at this
  rw [this]
  rcases Nat.mod_two_eq_zero_or_one a with h | h <;> rcases Nat.mod_two_eq_zero_or_one b with h' | h' <;> rw [h, h'] <;> rfl
theorem poly_xor (a b p : Nat) : (a ^^^ b) % 2 * p = a % 2 * p ^^^ b % 2 * p := by
  rw [xor_mod2]
  rcases Nat.mod_two_eq_zero_or_one a with h | h <;> rcases Nat.mod_two_eq_zero_or_one b with h' | h' <;> rw [h, h'] <;> simp
theorem bitN_xor (a b : Nat) : bitN (a ^^^ b) = bitN a ^^^ bitN b := by
  unfold bitN
  rw [xor_half, poly_xor]
  ac_rfl
theorem bits8_xor : ∀ (k a b : Nat), bits8 k (a ^^^ b) = bits8 k a ^^^ bits8 k b
  | 0, _, _ => rfl
  | k + 1, a, b => by show bitN _ = bitN _ ^^^ bitN _; rw [bits8_xor k, bitN_xor]
/-- No low bit is set: just a shift. -/
theorem bits8_shift : ∀ (k h : Nat), bits8 k (h * 2 ^ k) = h
  | 0, h => by simp [bits8]
  | k + 1, h => by
    have e : h * 2 ^ (k + 1) = (2 * h) * 2 ^ k := by rw [Nat.pow_succ]; ac_rfl
    show bitN (bits8 k (h * 2 ^ (k + 1))) = h
    rw [e, bits8_shift k]
    unfold bitN
    rw [show 2 * h / 2 = h by omega, show 2 * h % 2 = 0 by omega]
    simp
theorem split256 (s : Nat) : s = s / 256 * 256 ^^^ s % 256 := by
  have h := Nat.two_pow_add_eq_or_of_lt (i := 8) (b := s % 256) (by omega) (s / 256)
  have hx : s / 256 * 256 ^^^ s % 256 = s / 256 * 256 ||| s % 256 := by
    apply Nat.eq_of_testBit_eq
    intro i
    rw [Nat.testBit_xor, Nat.testBit_or, show s / 256 * 256 = 2 ^ 8 * (s / 256) by omega, Nat.testBit_two_pow_mul]
    by_cases hi : 8 ≤ i
    · rw [Nat.testBit_lt_two_pow (x := s % 256) (i := i) (Nat.lt_of_lt_of_le (by omega : s % 256 < 2 ^ 8) (Nat.pow_le_pow_right (by omega) hi))]
      simp
    · simp [hi]
  rw [hx, show s / 256 * 256 = 2 ^ 8 * (s / 256) by omega, ← h]
  omega
theorem step_table (s b : Nat) (hb : b < 256) : stepN s b = s / 256 ^^^ tab (s % 256 ^^^ b) := by
  have hl : s % 256 ^^^ b < 256 := Nat.xor_lt_two_pow (n := 8) (by omega) hb
  have ht : tab (s % 256 ^^^ b) = bits8 8 (s % 256 ^^^ b) := by rw [← tab_at hl]; unfold stepN; rw [Nat.zero_xor]
  have e : s ^^^ b = s / 256 * 2 ^ 8 ^^^ (s % 256 ^^^ b) := by
    rw [← Nat.xor_assoc]; exact congrArg (· ^^^ b) (split256 s)
  unfold stepN
  rw [e, bits8_xor, bits8_shift, ht]
theorem tstep_tab (s : Nat) (b : Int) (h0 : 0 ≤ b) (hb : b < 256) : tstep tab s b = stepN s b.toNat := by
  rw [step_table s b.toNat (by omega)]; rfl

/-! ### The reference's sum -/
/-- The reference's register behind i bits of the byte b. -/
def refB (b : Nat) : Nat → Nat → Nat
  | 0, s => s
  | i + 1, s => let r := refB b i s; if (r % 2 + b / 2 ^ i) % 2 = 1 then r / 2 ^^^ 2197175160 else r / 2
theorem refB_bits (b s : Nat) : ∀ i, refB b i s ^^^ b / 2 ^ i = bits8 i (s ^^^ b)
  | 0 => by simp [refB, bits8]
  | i + 1 => by
    have ih := refB_bits b s i
    show (if (refB b i s % 2 + b / 2 ^ i) % 2 = 1 then refB b i s / 2 ^^^ 2197175160 else refB b i s / 2) ^^^ b / 2 ^ (i + 1) = bitN (bits8 i (s ^^^ b))
    rw [← ih]
    generalize refB b i s = r
    have hd : b / 2 ^ (i + 1) = b / 2 ^ i / 2 := by rw [Nat.pow_succ, Nat.div_div_eq_div_mul]
    rw [hd]
    generalize b / 2 ^ i = c
    unfold bitN
    rw [xor_half, xor_mod2]
    by_cases h : (r % 2 + c) % 2 = 1
    · rw [if_pos h, show (r % 2 + c % 2) % 2 = 1 by omega, Nat.one_mul]; ac_rfl
    · rw [if_neg h, show (r % 2 + c % 2) % 2 = 0 by omega, Nat.zero_mul, Nat.xor_zero]
theorem refB_step (b s : Nat) (hb : b < 256) : refB b 8 s = stepN s b := by
  have := refB_bits b s 8
  rw [show b / 2 ^ 8 = 0 by omega, Nat.xor_zero] at this
  exact this
theorem refB_lt {b : Nat} : ∀ (i : Nat) {s : Nat}, s < 4294967296 → refB b i s < 4294967296
  | 0, _, h => h
  | i + 1, s, h => by
    have := refB_lt (b := b) i h
    show (if (refB b i s % 2 + b / 2 ^ i) % 2 = 1 then refB b i s / 2 ^^^ 2197175160 else refB b i s / 2) < 4294967296
    split
    · exact Nat.xor_lt_two_pow (n := 32) (by omega) (by omega)
    · omega

theorem u64w {n : Int} (h : 0 ≤ n ∧ n ≤ 18446744073709551615) : IntKind.u64.wrap n = n := IntWalk.u64_in n h
theorem shr_u64 (b i : Nat) (hb : b < 256) (hi : i ≤ 64) : shr .u64 (IntKind.u64.wrap (b : Int)) (i : Int) = ((b / 2 ^ i : Nat) : Int) := by
  rw [u64w (by omega)]
  show (b : Int) / 2 ^ (min ((i : Int)).toNat 64) = _
  rw [Int.toNat_natCast, Nat.min_eq_left hi]
  push_cast; rfl
theorem refsum_l1 (l : List Int) (b s : Nat) (hb : b < 256) (hs : s < 4294967296) (x10 : Int) : ∀ (d k i : Nat), i + d = 8 →
    hoodwinkref02_Sum.l1 (k + d + 1) (refB b i s : Nat) (b : Int) (i : Int) l (l.length : Int) x10 = hoodwinkref02_Sum.l0 k (refB b 8 s : Nat) l (l.length : Int) (wrap64 (x10 + 1))
  | 0, k, i, hi => by
    obtain rfl : i = 8 := by omega
    simp only [hoodwinkref02_Sum.l1]
    rw [if_neg (by omega)]
  | d + 1, k, i, hi => by
    have ih := refsum_l1 l b s hb hs x10 d k (i + 1) (by omega)
    have hr := refB_lt (b := b) i hs
    have hq : b / 2 ^ i < 256 := Nat.lt_of_le_of_lt (Nat.div_le_self _ _) hb
    show hoodwinkref02_Sum.l1 (k + d + 1 + 1) _ _ _ _ _ _ = _
    rw [hoodwinkref02_Sum.l1]
    rw [if_pos (by omega), if_pos (by omega), shr_u64 b i hb (by omega), next64 (by omega)]
    have e : refB b (i + 1) s = if (refB b i s % 2 + b / 2 ^ i) % 2 = 1 then refB b i s / 2 ^^^ 2197175160 else refB b i s / 2 := rfl
    rw [← ih, e]
    generalize refB b i s = r at *
    generalize b / 2 ^ i = c at *
    have h2 : Int.tmod (r : Int) 2 = ((r % 2 : Nat) : Int) := by rw [Int.tmod_eq_emod_of_nonneg (by omega)]; rfl
    have h3 : Int.tdiv (r : Int) 2 = ((r / 2 : Nat) : Int) := by rw [Int.tdiv_eq_ediv_of_nonneg (by omega)]; rfl
    rw [h2, h3, u64w (by omega), Int.tmod_eq_emod_of_nonneg (by omega), u64w (by omega)]
    by_cases h : (r % 2 + c) % 2 = 1
    · rw [if_pos (by omega), if_pos h]
      have hx : bits .xor .u64 ((r / 2 : Nat) : Int) 2197175160 = ((r / 2 ^^^ 2197175160 : Nat) : Int) := u64_xor_nat (r / 2) 2197175160 (by omega) (by omega)
      rw [hx]
    · rw [if_neg (by omega), if_neg h]
/-- Bytes' steps, one by one. -/
def steps (s : Nat) (l : List Int) : Nat := l.foldl (fun s b => stepN s b.toNat) s
theorem stepN_lt {s b : Nat} (hs : s < 4294967296) (hb : b < 256) : stepN s b < 4294967296 := bits8_lt 8 (Nat.xor_lt_two_pow (n := 32) (by omega) (by omega))
theorem steps_lt : ∀ {l : List Int} {s : Nat}, Bytes l → s < 4294967296 → steps s l < 4294967296
  | [], _, _, hs => hs
  | b :: l, s, hb, hs => steps_lt (l := l) (fun x hx => hb x (List.mem_cons_of_mem _ hx)) (stepN_lt hs (by have := hb b List.mem_cons_self; omega))
theorem steps_snoc (s : Nat) (a : List Int) (b : Int) : steps s (a ++ [b]) = stepN (steps s a) b.toNat := by simp [steps, List.foldl_append]
theorem tsum_steps : ∀ {l : List Int} {s : Nat}, Bytes l → tsum tab s l = steps s l
  | [], _, _ => rfl
  | b :: l, s, hb => by
    have h := hb b List.mem_cons_self
    show tsum tab (tstep tab s b) l = steps (stepN s b.toNat) l
    rw [tstep_tab s b h.1 h.2, tsum_steps (fun x hx => hb x (List.mem_cons_of_mem _ hx))]
theorem refsum_l0 (l : List Int) (hb : Bytes l) (hl : l.length < 9223372036854775807) : ∀ (d i : Nat) (s : Nat), i + d = l.length → s < 4294967296 →
    hoodwinkref02_Sum.l0 (10 * d + 1) (s : Int) l (l.length : Int) (i : Int) = some ((4294967295 - steps s (l.drop i) : Nat) : Int)
  | 0, i, s, hi, hs => by
    show hoodwinkref02_Sum.l0 (0 + 1) _ _ _ _ = _
    rw [hoodwinkref02_Sum.l0]
    rw [if_neg (by omega), List.drop_of_length_le (by omega), u64w (by omega)]
    show some _ = some ((4294967295 - s : Nat) : Int)
    congr 1; omega
  | d + 1, i, s, hi, hs => by
    have hil : i < l.length := by omega
    obtain ⟨b, hbe, hbl⟩ := hb.nat hil
    have hst := stepN_lt hs hbl
    have ih := refsum_l0 l hb hl d (i + 1) (stepN s b) (by omega) hst
    have h1 := refsum_l1 l b s hbl hs (i : Int) 8 (10 * d + 1) 0 (by omega)
    have e : l.drop i = (b : Int) :: l.drop (i + 1) := by rw [List.drop_eq_getElem_cons hil, hbe]
    rw [show 10 * (d + 1) + 1 = (10 * d + 1 + 8 + 1) + 1 by omega, hoodwinkref02_Sum.l0]
    rw [if_pos (by omega), if_pos (by omega), if_pos (by omega), rd_getElem hil, hbe]
    have h2 : hoodwinkref02_Sum.l1 (10 * d + 1 + 8 + 1) (s : Int) (b : Int) 0 l (l.length : Int) (i : Int) = _ := h1
    rw [h2, refB_step b s hbl, next64 (by omega), ih, e]
    rfl
theorem refsum_f (l : List Int) (hb : Bytes l) (hl : l.length < 9223372036854775807) : hoodwinkref02_Sum.f (10 * l.length + 1) l = some (sumN tab l : Nat) := by
  have := refsum_l0 l hb hl l.length 0 4294967295 (by omega) (by omega)
  unfold sumN
  rw [tsum_steps hb]
  simpa [hoodwinkref02_Sum.f] using this
theorem refsum_any (A : Option Addr) (n c : Nat) (l : List Int) (w : World) (hr : (Kd.int .u8).C w A n l) (hc : n ≤ c) (hb : Bytes l) (hl : n < 9223372036854775807) :
    Calls Try.prog 12 #[.slice A n c] w fun e w' => e = .returned (.int .u32 (sumN tab l : Nat)) ∧ Drawn0 w w' := by
  obtain rfl := hr.1
  exact hoodwinkref02_Sum.calls (10 * l.length + 1) A c l _ w hr hc (refsum_f l hb hl)

end Go.Proofs.Ytadodibnjdeckaa
