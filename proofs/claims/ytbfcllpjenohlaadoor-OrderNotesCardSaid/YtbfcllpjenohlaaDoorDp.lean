/- Numbers that all come: the plain law. -/
import Derived.Test.YtbfcllpjenohlaaDoorDs2
namespace Go.Proofs.YtbfcllpjenohlaaDoor
set_option linter.unusedVariables false
set_option linter.unusedSimpArgs false

theorem flip_bit {b : Nat} (hb : b < 4294967296) (j : Nat) : (4294967295 - b).testBit j = (decide (j < 32) && !b.testBit j) := by
  have := Nat.testBit_two_pow_sub_succ (n := 32) (x := b) hb j
  rw [show 2 ^ 32 - (b + 1) = 4294967295 - b by omega] at this
  exact this
theorem ctz_low {b : Nat} (hb : b < 4294967296) : (∀ j, j < Lib.ctz 32 (4294967295 - b) → b.testBit j = true) ∧ (Lib.ctz 32 (4294967295 - b) < 32 → b.testBit (Lib.ctz 32 (4294967295 - b)) = false) := by
  by_cases h0 : 4294967295 - b = 0
  · have e : Lib.ctz 32 (4294967295 - b) = 32 := by rw [h0]; decide
    rw [e]
    refine ⟨fun j hj => ?_, fun h => by omega⟩
    have := flip_bit hb j
    rw [h0] at this
    simp [hj] at this
    exact this
  · obtain ⟨m, hm, hr⟩ := Lib.ctzFrom_spec 32 (4294967295 - b) (by omega) (by omega)
    have e : Lib.ctz 32 (4294967295 - b) = Lib.ctzFrom 32 (4294967295 - b) := by unfold Lib.ctz; rw [if_neg h0]
    rw [e]
    generalize Lib.ctzFrom 32 (4294967295 - b) = r at *
    refine ⟨fun j hj => ?_, fun _ => ?_⟩
    · have h1 := flip_bit hb j
      rw [hm, Nat.testBit_two_pow_mul] at h1
      have : ¬ r ≤ j := by omega
      simp [this, show j < 32 by omega] at h1
      exact h1
    · have h1 := flip_bit hb r
      rw [hm, Nat.testBit_two_pow_mul] at h1
      simp [hr] at h1
      exact h1

/-- Of 33 numbers behind the first one those in q have come. -/
def Some33 (first : Int) (q : List Nat) (p : Int × Nat) (m : Nat) : Prop :=
  p.1 = plus first m ∧ m ≤ 33 ∧ p.2 < 4294967296 ∧ (∀ k, k < m → k ∈ q) ∧ (m < 33 → m ∉ q) ∧ ∀ j, j < 32 → p.2.testBit j = (decide (m + 1 + j ≤ 32) && decide (m + 1 + j ∈ q))

theorem some_step {first : Int} {q : List Nat} {p : Int × Nat} {m k : Nat} (h : Some33 first q p m) (hk : k < 33) (hq : k ∉ q) :
    (noteN p.1 p.2 (plus first k)).2 = true ∧ ∃ m', Some33 first (q ++ [k]) (noteN p.1 p.2 (plus first k)).1 m' := by
  obtain ⟨h1, h2, h3, h4, h5, h6⟩ := h
  have hkm : m ≤ k := by
    rcases Nat.lt_or_ge k m with h | h
    · exact absurd (h4 k h) hq
    · exact h
  have hd : dist p.1 (plus first k) = ((k - m : Nat) : Int) := by rw [h1]; unfold dist plus; omega
  have hh : hasN p.1 p.2 (plus first k) = false := by
    unfold hasN
    rw [hd]
    rcases Nat.eq_or_lt_of_le hkm with e | l
    · subst e; simp
    · have e1 : (((k - m : Nat) : Int) - 1).toNat = k - m - 1 := by omega
      rw [e1, h6 _ (by omega), show m + 1 + (k - m - 1) = k by omega]
      simp [hq]
  unfold noteN
  rw [if_neg (by rw [hh, hd]; simp; omega), hd]
  rcases Nat.eq_or_lt_of_le hkm with e | l
  · subst e
    rw [if_neg (by simp)]
    refine ⟨rfl, ?_⟩
    obtain ⟨c1, c2⟩ := ctz_low h3
    have c3 := ctz_le (4294967295 - p.2) (by omega)
    generalize Lib.ctz 32 (4294967295 - p.2) = r at *
    have hin : ∀ j, j < r → m + 1 + j ≤ 32 ∧ m + 1 + j ∈ q := fun j hj => by
      have := c1 j hj
      rw [h6 j (by omega)] at this
      simpa using this
    have hm : m + r ≤ 32 := by
      rcases Nat.eq_zero_or_pos r with h | h
      · omega
      · have := (hin (r - 1) (by omega)).1; omega
    refine ⟨m + r + 1, ?_, by omega, Nat.lt_of_le_of_lt (Nat.div_le_self _ _) h3, ?_, ?_, ?_⟩
    · show plus p.1 _ = _
      rw [h1]; unfold plus; omega
    · intro k' hk'
      rw [List.mem_append]
      rcases Nat.lt_trichotomy k' m with h | h | h
      · exact .inl (h4 _ h)
      · exact .inr (by simp [h])
      · have := (hin (k' - m - 1) (by omega)).2
        rw [show m + 1 + (k' - m - 1) = k' by omega] at this
        exact .inl this
    · intro hlt
      have := c2 (by omega)
      rw [h6 r (by omega)] at this
      simp only [List.mem_append, List.mem_singleton, not_or]
      refine ⟨fun hmem => ?_, by omega⟩
      rw [show m + 1 + r = m + r + 1 by omega] at this
      simp [hmem] at this
      omega
    · intro j hj
      show (p.2 / 2 ^ (r + 1)).testBit j = _
      rw [Nat.testBit_div_two_pow]
      by_cases hb : r + 1 + j < 32
      · rw [show j + (r + 1) = r + 1 + j by omega, h6 _ hb, show m + 1 + (r + 1 + j) = m + r + 1 + 1 + j by omega]
        have : m + r + 1 + 1 + j ≠ m := by omega
        simp [List.mem_append, this]
      · have e1 : p.2.testBit (j + (r + 1)) = false := Nat.testBit_lt_two_pow (Nat.lt_of_lt_of_le h3 (Nat.pow_le_pow_right (n := 2) (by omega) (show 32 ≤ j + (r + 1) by omega)))
        rw [e1]
        have : ¬ m + r + 1 + 1 + j ≤ 32 := by omega
        simp [this]
  · rw [if_pos (by omega)]
    refine ⟨rfl, m, h1, h2, ?_, ?_, ?_, ?_⟩
    · exact Nat.or_lt_two_pow (n := 32) h3 (Nat.pow_lt_pow_right (by omega) (by omega))
    · exact fun k' hk' => List.mem_append.2 (.inl (h4 k' hk'))
    · intro hm
      simp only [List.mem_append, List.mem_singleton, not_or]
      exact ⟨h5 hm, by omega⟩
    · intro j hj
      show (p.2 ||| 2 ^ _).testBit j = _
      have e1 : (((k - m : Nat) : Int) - 1).toNat = k - m - 1 := by omega
      rw [e1, Nat.testBit_or, h6 j hj, Nat.testBit_two_pow]
      by_cases he : m + 1 + j = k
      · have : k - m - 1 = j := by omega
        simp [this, he]; omega
      · have : ¬ k - m - 1 = j := by omega
        simp [this, he, List.mem_append]

theorem some_zero (first : Int) (hf : 0 ≤ first ∧ first < 65536) : Some33 first [] (first, 0) 0 :=
  ⟨by unfold plus; simp only; omega, by omega, Nat.zero_lt_succ _, fun k hk => by omega, fun _ => by simp, fun j hj => by simp⟩
theorem some_end {first : Int} {q : List Nat} {p : Int × Nat} {m : Nat} (h : Some33 first q p m) (hq : ∀ k, k < 33 → k ∈ q) : p = (plus first 33, 0) := by
  obtain ⟨h1, h2, h3, h4, h5, h6⟩ := h
  have hm : m = 33 := by
    rcases Nat.lt_or_ge m 33 with h | h
    · exact absurd (hq m h) (h5 h)
    · omega
  subst hm
  have h0 : p.2 = 0 := by
    apply Nat.eq_of_testBit_eq
    intro j
    rw [Nat.zero_testBit]
    by_cases hj : j < 32
    · rw [h6 j hj]; simp; omega
    · exact Nat.testBit_lt_two_pow (Nat.lt_of_lt_of_le h3 (Nat.pow_le_pow_right (n := 2) (by omega) (show 32 ≤ j by omega)))
  exact Prod.ext h1 h0

/-- Two places of a row exchanged. -/
theorem swap_perm {α : Type} (l : List α) (a b : Nat) (ha : a < l.length) (hb : b < l.length) : ((l.set a l[b]).set b l[a]).Perm l := by
  induction l generalizing a b with
  | nil => simp at ha
  | cons x t ih =>
    match a, b with
    | 0, 0 => simp
    | 0, b + 1 =>
      simp only [List.getElem_cons_succ, List.getElem_cons_zero, List.set_cons_zero, List.set_cons_succ]
      have hb' : b < t.length := by simpa using hb
      have := List.getElem_cons_drop hb'
      rw [List.set_eq_take_append_cons_drop, if_pos hb']
      have e : t = t.take b ++ t[b] :: t.drop (b + 1) := by rw [this, List.take_append_drop]
      refine List.Perm.trans (l₂ := t[b] :: x :: (t.take b ++ t.drop (b + 1))) (List.Perm.cons _ List.perm_middle) ?_
      refine List.Perm.trans (List.Perm.swap _ _ _) (List.Perm.cons _ ?_)
      refine List.Perm.trans List.perm_middle.symm ?_
      rw [← e]
    | a + 1, 0 =>
      simp only [List.getElem_cons_succ, List.getElem_cons_zero, List.set_cons_zero, List.set_cons_succ]
      have ha' : a < t.length := by simpa using ha
      have := List.getElem_cons_drop ha'
      rw [List.set_eq_take_append_cons_drop, if_pos ha']
      have e : t = t.take a ++ t[a] :: t.drop (a + 1) := by rw [this, List.take_append_drop]
      refine List.Perm.trans (l₂ := t[a] :: x :: (t.take a ++ t.drop (a + 1))) (List.Perm.cons _ List.perm_middle) ?_
      refine List.Perm.trans (List.Perm.swap _ _ _) (List.Perm.cons _ ?_)
      refine List.Perm.trans List.perm_middle.symm ?_
      rw [← e]
    | a + 1, b + 1 =>
      simp only [List.getElem_cons_succ, List.set_cons_succ]
      exact List.Perm.cons _ (ih a b (by simpa using ha) (by simpa using hb))
end Go.Proofs.YtbfcllpjenohlaaDoor
