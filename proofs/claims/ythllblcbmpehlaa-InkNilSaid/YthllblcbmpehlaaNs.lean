/- The references of layer 1, further: number, Num, like. -/
import Derived.Test.YthllblcbmpehlaaNn
namespace Go.Proofs.Ythllblcbmpehlaa
open Go.RowKit Go.Proofs.YthllblcbmpehlaaW.PrintWords Go.Proofs.YthllblcbmpehlaaW.PrintLast Go.Proofs.YthllblcbmpehlaaW.PrintMore
set_option linter.unusedVariables false
set_option linter.unusedSimpArgs false

def tellN (L : Nat) : Option (Nat × List Int) → Int × Int
  | none => (0, 0)
  | some (n, l') => ((n : Int), ((L - l'.length : Nat) : Int))
theorem quo_big (i : Nat) (h : i ≤ 8) : 255 ≤ 18446744073709551615 / 2 ^ (7 * i) := by
  have h1 : (2 : Nat) ^ (7 * i) ≤ 2 ^ 56 := Nat.pow_le_pow_right (by decide) (by omega)
  have h2 : 18446744073709551615 / 2 ^ 56 ≤ 18446744073709551615 / 2 ^ (7 * i) := Nat.div_le_div_left h1 (Nat.two_pow_pos _)
  omega
theorem number_l0 (l : List Int) (hb : Bytes l) (hn : l.length ≤ 100000) : ∀ (d k i acc : Nat) (byv : Int), i + d = l.length → i ≤ 10 → (i ≤ 9 → byv = ((2 ^ (7 * i) : Nat) : Int)) → acc < 2 ^ (7 * i) → acc < 18446744073709551616 → 3 * d + 3 ≤ k →
    hoodwinkref01_number.l0 k l (acc : Int) byv (i : Int) = some (tellN l.length (numR (7 * i) acc (l.drop i)))
  | 0, k, i, acc, byv, hi, h10, hby, ha, ha2, hk => by
    obtain ⟨k, rfl⟩ : ∃ q, k = q + 2 := ⟨k - 2, by omega⟩
    rw [List.drop_of_length_le (by omega)]
    simp only [hoodwinkref01_number.l0]
    rw [if_neg (by omega)]
    simp [hoodwinkref01_number.j1, numR, tellN]
  | d + 1, k, i, acc, byv, hi, h10, hby, ha, ha2, hk => by
    obtain ⟨k, rfl⟩ : ∃ q, k = q + 3 := ⟨k - 3, by omega⟩
    have hil : i < l.length := by omega
    have ih := number_l0 l hb hn d k (i + 1)
    obtain ⟨m, hm, hm2⟩ := hb.nat hil
    rw [List.drop_eq_getElem_cons hil]
    simp only [hoodwinkref01_number.l0]
    rw [if_pos (by omega)]
    simp only [numR]
    rw [hm, Int.toNat_natCast]
    by_cases hi10 : i = 10
    · subst hi10
      rw [if_pos (.inr (.inl (by omega)))]
      simp [hoodwinkref01_number.j1, tellN]
    · have hby' := hby (by omega)
      have hrd : rd l (i : Int) = (m : Int) := by rw [rd_getElem hil, hm]
      have hw : IntKind.u64.wrap (m : Int) = (m : Int) := by rw [IntKind.wrap_u64]; omega
      have ht : Int.tmod (m : Int) 128 = ((m % 128 : Nat) : Int) := by rw [Int.tmod_eq_emod_of_nonneg (by omega)]; omega
      have d10 : decide ((i : Int) < 10) = true := decide_eq_true (by omega)
      simp only [hoodwinkref01_number.j1]
      rw [d10, if_pos rfl, if_pos (by omega), if_pos (by omega), hrd, hw, ht]
      have rest : ¬ (63 < 7 * i ∨ 18446744073709551615 / 2 ^ (7 * i) < m % 128) → hoodwinkref01_number.j2 (k + 1) l (acc : Int) byv (i : Int) ((m % 128 : Nat) : Int) false = some (tellN l.length (if (0 < 7 * i ∧ (m : Int) = 0) ∨ 63 < 7 * i ∨ 18446744073709551615 / 2 ^ (7 * i) < m % 128 then none else if (m : Int) < 128 then some (acc + m % 128 * 2 ^ (7 * i), l.drop (i + 1)) else numR (7 * i + 7) (acc + m % 128 * 2 ^ (7 * i)) (l.drop (i + 1)))) := by
        intro hno
        obtain ⟨_, hN1, hN2⟩ := or_u64 acc m (7 * i) ha (fun h => hno (.inl h)) (fun h => hno (.inr h)) ha2
        have hv : IntKind.u64.wrap ((acc : Int) + IntKind.u64.wrap (byv * ((m % 128 : Nat) : Int))) = ((acc + m % 128 * 2 ^ (7 * i) : Nat) : Int) := by
          rw [hby', show ((2 ^ (7 * i) : Nat) : Int) * ((m % 128 : Nat) : Int) = ((m % 128 * 2 ^ (7 * i) : Nat) : Int) by rw [← Int.natCast_mul, Nat.mul_comm], wu64 (n := ((m % 128 * 2 ^ (7 * i) : Nat) : Int)) (by omega), wu64 (by omega)]
          omega
        simp only [hoodwinkref01_number.j2]
        rw [if_neg (by decide), if_pos (by omega), if_pos (by omega), hrd, hv]
        by_cases h8 : (m : Int) < 128
        · rw [if_pos h8, if_pos h8]
          by_cases h0 : 0 < i
          · rw [if_pos (by omega)]
            by_cases hz : m = 0
            · rw [if_pos (by omega), if_pos (.inl ⟨by omega, by omega⟩)]; rfl
            · rw [if_neg (by omega), if_neg (by rintro (⟨_, h⟩ | h); omega; exact hno h)]
              simp only [tellN, next64 (show i < 9223372036854775807 by omega), List.length_drop]
              congr 3; omega
          · rw [if_neg (by omega), if_neg (by rintro (⟨h, _⟩ | h); omega; exact hno h)]
            simp only [tellN, next64 (show i < 9223372036854775807 by omega), List.length_drop]
            congr 3; omega
        · rw [if_neg h8, if_neg h8, if_neg (by rintro (⟨_, h⟩ | h); omega; exact hno h), next64 (by omega), ih (acc + m % 128 * 2 ^ (7 * i)) _ (by omega) (by omega) ?_ (by rw [show 7 * (i + 1) = 7 * i + 7 by omega]; exact hN2) hN1 (by omega)]
          · rw [show 7 * (i + 1) = 7 * i + 7 by omega]
          · intro h9
            have hp : (2 : Nat) ^ (7 * (i + 1)) = 2 ^ (7 * i) * 128 := by rw [show 7 * (i + 1) = 7 * i + 7 by omega, Nat.pow_add]
            have hp2 : (2 : Nat) ^ (7 * (i + 1)) ≤ 2 ^ 63 := Nat.pow_le_pow_right (by decide) (by omega)
            rw [hby', hp]
            rw [hp] at hp2
            rw [show ((2 ^ (7 * i) : Nat) : Int) * 128 = ((2 ^ (7 * i) * 128 : Nat) : Int) by rw [Int.natCast_mul]; rfl, wu64 (by omega)]
      by_cases h9 : i = 9
      · subst h9
        rw [if_pos (by omega)]
        have hq : (18446744073709551615 : Nat) / 2 ^ (7 * 9) = 1 := by decide
        by_cases hb1 : 1 < m % 128
        · rw [if_pos (.inr (.inr (by rw [hq]; exact hb1)))]
          have : decide (((m % 128 : Nat) : Int) > 1) = true := decide_eq_true (by omega)
          simp only [hoodwinkref01_number.j2]
          rw [this, if_pos rfl]; rfl
        · have : decide (((m % 128 : Nat) : Int) > 1) = false := decide_eq_false (by omega)
          rw [this]
          exact rest (by rintro (h | h); omega; rw [hq] at h; exact hb1 h)
      · rw [if_neg (by omega)]
        have := quo_big i (by omega)
        exact rest (by rintro (h | h) <;> omega)
theorem number_any (A : Option Addr) (n c : Nat) (l : List Int) (w : World) (hr : (Kd.int .u8).C w A n l) (hc : n ≤ c) (hb : Bytes l) (hl : n ≤ 100000) :
    Calls Try.prog 38 #[.slice A n c] w fun e w' => e = .returned (.tuple #[.int .u64 (tellN n (numR 0 0 l)).1, .int .i64 (tellN n (numR 0 0 l)).2]) ∧ Drawn0 w w' := by
  obtain rfl := hr.1
  have key := number_l0 l hb hl l.length (3 * l.length + 3) 0 0 1 (by omega) (by omega) (fun _ => by simp) (by decide) (by decide) (by omega)
  exact hoodwinkref01_number.calls (3 * l.length + 3) A c l _ _ w hr hc (by simpa [hoodwinkref01_number.f] using key)
theorem leN_valN (l : List Int) (h : Bytes l) : (valN l : Int) = leN l := by
  induction l with
  | nil => rfl
  | cons b l ih =>
    have h1 := h b (by simp)
    have := ih (fun x hx => h x (List.mem_cons_of_mem _ hx))
    simp only [valN, leN]
    omega
theorem like_any (β : Bool) (a0 a1 a3 b0 b1 b3 : Int) (A B : Option Addr) (n m c c' : Nat) (x y : List Int) (w : World) (hx : (Kd.int .u8).C w A n x) (hc : n ≤ c) (hy : (Kd.int .u8).C w B m y) (hc' : m ≤ c') (h : decide (a1 = b1 ∧ x = y) = β) :
    Calls Try.prog 26 #[.agg #[.int .u8 a0, .int .u64 a1, .slice A n c, .int .u64 a3], .agg #[.int .u8 b0, .int .u64 b1, .slice B m c', .int .u64 b3]] w fun e w' => e = .returned (.bool β) ∧ Below w.heap.size w w' := by
  have hm := hx.2.1
  obtain rfl := hx.1
  obtain rfl := hy.1
  subst h
  refine hoodwinklaw01_like.calls (x.length + 1) a0 a1 A c x a3 b0 b1 B c' y b3 _ w hx hc hy hc' ?_
  unfold hoodwinklaw01_like.f
  by_cases h1 : a1 = b1
  · rw [if_pos h1, same_f x y hm, Option.bind_some]
    exact congrArg some (decide_eq_decide.2 ⟨fun h => ⟨h1, h⟩, fun h => h.2⟩)
  · rw [if_neg h1, decide_eq_false (fun h => h1 h.1)]
end Go.Proofs.Ythllblcbmpehlaa
