/- The reference's Num, Lay. What was laid is taken. -/
import Derived.Test.YthllblcbmpehlaaNu
import Derived.Test.YthllblcbmpehlaaN3
namespace Go.Proofs.Ythllblcbmpehlaa
open Go.RowKit Go.Proofs.YthllblcbmpehlaaW.PrintWords Go.Proofs.YthllblcbmpehlaaW.PrintLast Go.Proofs.YthllblcbmpehlaaW.PrintMore
set_option linter.unusedVariables false
set_option linter.unusedSimpArgs false

theorem join_fk (l : List (List Int)) (k : Nat) (hk : l.length < k) (hl : l.flatten.length < 140737488355328) (hn : l.length ≤ 9223372036854775807) : hoodwinkref01_Join.f k l = some l.flatten := by
  have := join_l0 l hl hn l.length k 0 (by omega) hk
  simpa [hoodwinkref01_Join.f] using this
theorem num_f : ∀ (j k x : Nat), x < 128 ^ (j + 1) → x < 18446744073709551616 → j + 4 ≤ k → hoodwinkref01_Num.f k (x : Int) = some (numN x)
  | j, k, x, hx, hx2, hk => by
    obtain ⟨k, rfl⟩ : ∃ q, k = q + 1 := ⟨k - 1, by omega⟩
    simp only [hoodwinkref01_Num.f]
    by_cases h8 : x < 128
    · rw [if_pos (by omega), numN_lo h8]
      congr 2
      omega
    · rw [if_neg (by omega)]
      cases j with
      | zero => simp at hx; omega
      | succ j =>
        have h1 : IntKind.u64.wrap (Int.tdiv (x : Int) 128) = ((x / 128 : Nat) : Int) := by
          rw [Int.tdiv_eq_ediv_of_nonneg (by omega), wu64 (by omega)]; omega
        have ih := num_f j k (x / 128) (Nat.div_lt_of_lt_mul (by rw [Nat.pow_succ] at hx; omega)) (by omega) (by omega)
        rw [h1, ih, Option.bind_some]
        have h2 : ((Int.tmod (x : Int) 128 % 256) + 128) % 256 = ((x % 128 + 128 : Nat) : Int) := by
          rw [Int.tmod_eq_emod_of_nonneg (by omega)]; omega
        have h10 := numN_ten (x := x / 128) (by omega)
        rw [h2, join_fk _ k (by simp; omega) (by simp; omega) (by simp), Option.bind_some, numN_hi h8]
        simp
theorem lay_f (x : S30) (hx : Fd x) (h2 : x.f2.length ≤ 100000) : hoodwinkref01_Lay.f 20 x.f0 x.f1 x.f2 x.f3 = some (layN x) := by
  obtain ⟨f0, f1, f2, f3⟩ := x
  obtain ⟨_, ⟨h1, h1'⟩, _, _⟩ := hx
  simp only at h1 h1' h2
  obtain ⟨n, rfl⟩ := Int.eq_ofNat_of_zero_le h1
  have low : ∀ s : Nat, s ≤ 4 → hoodwinkref01_Low.f 20 (n : Int) (s : Int) = some (lowN n s) := fun s hs => by
    have := low_l0 s (by omega) s 20 0 n [] (by omega) (by omega) (by omega) rfl
    simpa [hoodwinkref01_Low.f] using this
  have hn := num_f 9 20 n (by omega) (by omega) (by omega)
  unfold hoodwinkref01_Lay.f layN
  simp only [Int.toNat_natCast]
  by_cases c0 : Int.tmod f0 5 = 0
  · rw [if_pos c0, if_pos c0]
    have := low 1 (by omega)
    simp only [Int.natCast_one] at this
    rw [show (1 : Int) = ((1 : Nat) : Int) from rfl] at *
    rw [low 1 (by omega), Option.bind_some]
  · rw [if_neg c0, if_neg c0]
    by_cases c1 : Int.tmod f0 5 = 1
    · rw [if_pos c1, if_pos c1, show (2 : Int) = ((2 : Nat) : Int) from rfl, low 2 (by omega), Option.bind_some]
    · rw [if_neg c1, if_neg c1]
      by_cases c2 : Int.tmod f0 5 = 2
      · rw [if_pos c2, if_pos c2, show (4 : Int) = ((4 : Nat) : Int) from rfl, low 4 (by omega), Option.bind_some]
      · rw [if_neg c2, if_neg c2]
        by_cases c3 : Int.tmod f0 5 = 3
        · rw [if_pos c3, if_pos c3, hn, Option.bind_some]
        · rw [if_neg c3, if_neg c3, wu64 (by omega), num_f 9 20 f2.length (by omega) (by omega) (by omega), Option.bind_some]
          have h10 := numN_ten (x := f2.length) (by omega)
          rw [join_fk _ 20 (by simp) (by simp; omega) (by simp), Option.bind_some]
          simp
theorem cell_block_lt {w : World} {a : Addr} {v : Value} (h : w.cell? a = some v) : a.block < w.heap.size := by
  rcases Nat.lt_or_ge a.block w.heap.size with h1 | h1
  · exact h1
  · have : w.heap[a.block]? = none := by simp [h1]
    unfold World.cell? at h
    rw [this] at h
    simp at h
theorem C_foot_all {w : World} {A : Option Addr} {n : Nat} {l : List Int} (h : (Kd.int .u8).C w A n l) : ∀ W' : World, (∀ k, True → k < w.heap.size → W'.heap[k]? = w.heap[k]?) → (Kd.int .u8).C W' A n l := by
  intro W' hW
  refine ⟨h.1, h.2.1, fun hn => ?_⟩
  obtain ⟨ad, e, hj⟩ := h.2.2 hn
  refine ⟨ad, e, fun j p hp => ?_⟩
  obtain ⟨cs, h1, h2, h3⟩ := hj j p hp
  refine ⟨cs, h1, h2, fun i u hu => ?_⟩
  have := h3 i u hu
  have hlt := cell_block_lt this
  unfold World.cell? at this ⊢
  rw [hW _ trivial hlt]
  exact this
theorem rlay_any (x : S30) (A : Option Addr) (c : Nat) (w : World) (hx : Fd x) (hr : (Kd.int .u8).C w A x.f2.length x.f2) (hc : x.f2.length ≤ c) (hl : x.f2.length ≤ 100000) :
    Calls Try.prog 27 #[.agg #[.int .u8 x.f0, .int .u64 x.f1, .slice A x.f2.length c, .int .u64 x.f3]] w fun e w' => ∃ v, e = .returned v ∧ (Kd.int .u8).R 5 w' w.heap.size (fun _ => True) v (layN x) ∧ Below w.heap.size w w' := by
  refine (hoodwinkref01_Lay.calls 20 x.f0 x.f1 (fun _ => True) A c x.f2 x.f3 (layN x) w ?_ (lay_f x hx hl)).mono ?_
  · exact ⟨A, c, rfl, hc, C_foot_all hr⟩
  · rintro e w' ⟨v, h1, h2, h3⟩
    exact ⟨v, h1, Kd.R_mono h2 (fun _ _ => trivial), h3⟩

/-- What was laid is taken. -/
def askN (x : S30) : S30 := ⟨x.f0, x.f1, x.f2, if Int.tmod x.f0 5 = 4 then 40 else 18446744073709551615⟩
theorem eFix_low (k n : Nat) (rest : List Int) : (eFix k (lowN n k ++ rest) false).2 = (rest, false) := by
  unfold eFix
  rw [if_neg (by rw [List.length_append, lowN_length]; rintro (h | h); cases h; omega)]
  have := List.drop_left (l₁ := lowN n k) (l₂ := rest)
  rw [lowN_length] at this
  rw [this]
theorem lay_take (x : S30) (hx : Fd x) (h2 : x.f2.length ≤ 40) (rest : List Int) : ∃ N bs, eTake (askN x) (layN x ++ rest) false = ((N, bs), rest, false) := by
  obtain ⟨f0, f1, f2, f3⟩ := x
  obtain ⟨⟨h0, h0'⟩, ⟨h1, h1'⟩, _, _⟩ := hx
  simp only at h0 h0' h1 h1' h2
  obtain ⟨n, rfl⟩ := Int.eq_ofNat_of_zero_le h1
  unfold eTake askN layN
  simp only [Int.toNat_natCast]
  by_cases c0 : Int.tmod f0 5 = 0
  · rw [if_pos c0, if_pos c0, ← eFix1]
    exact ⟨_, _, by rw [eFix_low]⟩
  · rw [if_neg c0, if_neg c0]
    by_cases c1 : Int.tmod f0 5 = 1
    · rw [if_pos c1, if_pos c1]
      exact ⟨_, _, by rw [eFix_low]⟩
    · rw [if_neg c1, if_neg c1]
      by_cases c2 : Int.tmod f0 5 = 2
      · rw [if_pos c2, if_pos c2]
        exact ⟨_, _, by rw [eFix_low]⟩
      · rw [if_neg c2, if_neg c2]
        by_cases c3 : Int.tmod f0 5 = 3
        · rw [if_pos c3, if_pos c3, if_neg (by rw [c3]; decide), eNum_num n (by omega) rest, if_neg (by omega)]
          exact ⟨_, _, rfl⟩
        · rw [if_neg c3, if_neg c3]
          by_cases c4 : Int.tmod f0 5 = 4
          · rw [if_pos c4, List.append_assoc]
            unfold eBlob
            rw [eNum_num f2.length (by omega) (f2 ++ rest), if_neg (by omega)]
            simp only [Int.toNat_natCast]
            rw [if_neg (by rw [List.length_append]; rintro (h | h); cases h; omega), List.drop_left]
            exact ⟨_, _, rfl⟩
          · exfalso
            have := Int.tmod_eq_emod_of_nonneg (a := f0) (b := 5) (by omega)
            omega
end Go.Proofs.Ythllblcbmpehlaa
