/- Plain laws of sets of bits. -/
import Derived.Test.YthafmgcflbdjpaaDoorMe
namespace Go.Proofs.YthafmgcflbdjpaaDoor
open Go.RowKit Go.Shelf Go.Proofs.YthafmgcflbdjpaaDoorW.PrintWords Go.Proofs.YthafmgcflbdjpaaDoorW.PrintLast Go.Proofs.YthafmgcflbdjpaaDoorW.PrintMore
set_option linter.unusedVariables false
set_option linter.unusedSimpArgs false

/-- How many below n are so. -/
def cnt (n : Nat) (p : Nat → Bool) : Nat := ((List.range n).filter p).length
theorem pop_cnt (n b : Nat) : pop n b = cnt n (fun i => b.testBit i) := rfl
theorem cnt_succ (n : Nat) (p : Nat → Bool) : cnt (n + 1) p = cnt n p + (p n).toNat := by
  unfold cnt
  rw [List.range_succ, List.filter_append, List.length_append]
  cases h : p n <;> simp [h]
theorem cnt_congr {p q : Nat → Bool} : ∀ n, (∀ i, i < n → p i = q i) → cnt n p = cnt n q
  | 0, _ => rfl
  | n + 1, h => by rw [cnt_succ, cnt_succ, cnt_congr n (fun i hi => h i (by omega)), h n (by omega)]
theorem cnt_more {p q : Nat → Bool} (k : Nat) (hp : p k = false) : ∀ n, (∀ i, i < n → q i = (p i || decide (i = k))) → cnt n q = cnt n p + (decide (k < n)).toNat
  | 0, _ => rfl
  | n + 1, h => by
    rw [cnt_succ, cnt_succ, cnt_more k hp n (fun i hi => h i (by omega)), h n (by omega)]
    by_cases e : n = k
    · subst e; simp [hp]
    · by_cases h1 : k < n
      · have h2 : k < n + 1 := by omega
        simp [e, h1, h2]; omega
      · have h2 : ¬ k < n + 1 := by omega
        simp [e, h1, h2]
theorem cnt_two (p q : Nat → Bool) : ∀ n, cnt n (fun i => p i && q i) + cnt n (fun i => p i || q i) = cnt n p + cnt n q
  | 0 => rfl
  | n + 1 => by
    have := cnt_two p q n
    rw [cnt_succ, cnt_succ, cnt_succ, cnt_succ]
    have e : (p n && q n).toNat + (p n || q n).toNat = (p n).toNat + (q n).toNat := by cases p n <;> cases q n <;> rfl
    omega
theorem cnt_below (z : Int) : ∀ n : Nat, ((cnt n (fun i => decide ((i : Int) < z)) : Nat) : Int) = min (max z 0) n
  | 0 => by simp [cnt]; omega
  | n + 1 => by
    have := cnt_below z n
    rw [cnt_succ]
    by_cases h : (n : Int) < z
    · simp only [h, decide_true, Bool.toNat_true]; omega
    · simp only [h, decide_false, Bool.toNat_false]; omega

theorem lessN_lt {a b : Nat} (ha : a < 4294967296) : lessN a b < 4294967296 := and_lt ha
theorem less_zero {a b : Nat} (ha : a < 4294967296) (hb : b < 4294967296) (h : ∀ i, i < 32 → a.testBit i = true → b.testBit i = true) : (lessN a b == 0) = true := by
  have e : lessN a b = 0 := by
    refine eq_of_bits (lessN_lt ha) (by omega) fun i hi => ?_
    rw [lessN_bit a b i hb hi, Nat.zero_testBit]
    cases h1 : a.testBit i with
    | false => rfl
    | true => rw [h i hi h1]; rfl
  rw [e]; rfl
/-! ### MaskAlls -/
theorem alls_1 {n k : Int} (h : n ≤ k) : (lessN (allN n) (allN k) == 0) = true :=
  less_zero (allN_lt n) (allN_lt k) fun i hi h1 => by
    rw [allN_bit _ i hi] at h1 ⊢
    simp only [decide_eq_true_eq] at h1 ⊢; omega
theorem alls_2 (n : Int) : ((pop 32 (allN n) : Nat) : Int) = min (max n 0) 32 := by
  rw [pop_cnt, cnt_congr 32 (fun i hi => allN_bit n i hi)]
  exact cnt_below n 32
theorem alls_3 {m : Nat} (hm : m < 4294967296) : (lessN m (allN 32) == 0) = true :=
  less_zero hm (allN_lt 32) fun i hi _ => by rw [allN_bit _ i hi]; simp; omega
theorem one_bit (m : Nat) (o : Int) (i : Nat) (hi : i < 32) : (withN m [o]).testBit i = (m.testBit i || decide ((i : Int) = o)) := by
  rw [withN_bit _ _ _ hi]; simp
theorem alls_4 (m : Nat) (o : Int) (h0 : 0 ≤ o) (h1 : o < 32) (h : hasN m o = false) : pop 32 (withN m [o]) = pop 32 m + 1 := by
  have hk : m.testBit o.toNat = false := by
    unfold hasN at h
    rw [decide_eq_true ⟨h0, h1⟩, Bool.true_and] at h
    exact h
  rw [pop_cnt, pop_cnt, cnt_more (p := fun i => m.testBit i) o.toNat hk 32 (fun i hi => ?_)]
  · rw [decide_eq_true (by omega)]; rfl
  · rw [one_bit _ _ _ hi]
    have : ((i : Int) = o) ↔ (i = o.toNat) := by omega
    simp only [this]
theorem alls_5 (m : Nat) (hm : m < 4294967296) (o : Int) (h : ¬ (0 ≤ o ∧ o < 32) ∨ hasN m o = true) : withN m [o] = m := by
  refine eq_of_bits (withN_lt _ _ hm) hm fun i hi => ?_
  rw [one_bit _ _ _ hi]
  by_cases e : (i : Int) = o
  · rcases h with h | h
    · omega
    · unfold hasN at h
      simp only [Bool.and_eq_true] at h
      have := h.2
      rw [show o.toNat = i by omega] at this
      simp [this]
  · simp [e]
theorem alls_6 (m : Nat) (hm : m < 4294967296) (o : Int) : lessN (withN m [o]) (withN 0 [o]) = lessN m (withN 0 [o]) := by
  have h0 : withN 0 [o] < 4294967296 := withN_lt _ _ (by omega)
  refine eq_of_bits (lessN_lt (withN_lt _ _ hm)) (lessN_lt hm) fun i hi => ?_
  rw [lessN_bit _ _ _ h0 hi, lessN_bit _ _ _ h0 hi, one_bit _ _ _ hi, one_bit _ _ _ hi, Nat.zero_testBit]
  cases m.testBit i <;> cases decide ((i : Int) = o) <;> rfl
/-! ### MaskLaws -/
theorem laws_1 {a b : Nat} (ha : a < 4294967296) : (lessN (a &&& b) a == 0) = true :=
  less_zero (and_lt ha) ha fun i _ h => by rw [Nat.testBit_and] at h; simp only [Bool.and_eq_true] at h; exact h.1
theorem laws_2 {a b : Nat} (ha : a < 4294967296) (hb : b < 4294967296) : (lessN (a &&& b) b == 0) = true :=
  less_zero (and_lt ha) hb fun i _ h => by rw [Nat.testBit_and] at h; simp only [Bool.and_eq_true] at h; exact h.2
theorem laws_3 {a b : Nat} (ha : a < 4294967296) (hb : b < 4294967296) : (lessN a (a ||| b) == 0) = true :=
  less_zero ha (or_lt ha hb) fun i _ h => by rw [Nat.testBit_or, h]; rfl
theorem laws_4 {a b : Nat} (ha : a < 4294967296) (hb : b < 4294967296) : (lessN b (a ||| b) == 0) = true :=
  less_zero hb (or_lt ha hb) fun i _ h => by rw [Nat.testBit_or, h]; simp
theorem laws_5 {a b : Nat} (ha : a < 4294967296) (hb : b < 4294967296) : (a &&& b) ||| lessN a b = a := by
  refine eq_of_bits (or_lt (and_lt ha) (lessN_lt ha)) ha fun i hi => ?_
  rw [Nat.testBit_or, Nat.testBit_and, lessN_bit a b i hb hi]
  cases a.testBit i <;> cases b.testBit i <;> rfl
theorem laws_6 {a b : Nat} (ha : a < 4294967296) (hb : b < 4294967296) : lessN a b &&& b = 0 := by
  refine eq_of_bits (and_lt (lessN_lt ha)) (by omega) fun i hi => ?_
  rw [Nat.testBit_and, lessN_bit a b i hb hi, Nat.zero_testBit]
  cases a.testBit i <;> cases b.testBit i <;> rfl
theorem laws_7 (a b : Nat) : pop 32 (a &&& b) + pop 32 (a ||| b) = pop 32 a + pop 32 b := by
  have h := cnt_two (fun i => a.testBit i) (fun i => b.testBit i) 32
  have h1 : pop 32 (a &&& b) = cnt 32 (fun i => a.testBit i && b.testBit i) := cnt_congr 32 (fun i _ => Nat.testBit_and a b i)
  have h2 : pop 32 (a ||| b) = cnt 32 (fun i => a.testBit i || b.testBit i) := cnt_congr 32 (fun i _ => Nat.testBit_or a b i)
  rw [h1, h2, h]; rfl
theorem laws_8 {a b : Nat} (ha : a < 4294967296) (hb : b < 4294967296) : (lessN a b == 0) = decide (a &&& b = a) := by
  by_cases e : a &&& b = a
  · rw [decide_eq_true e]
    refine less_zero ha hb fun i _ h => ?_
    have := congrArg (fun x => x.testBit i) e
    simp only [Nat.testBit_and, h, Bool.true_and] at this
    exact this
  · rw [decide_eq_false e]
    refine beq_eq_false_iff_ne.2 fun hz => e ?_
    refine eq_of_bits (and_lt ha) ha fun i hi => ?_
    have := lessN_bit a b i hb hi
    rw [hz, Nat.zero_testBit] at this
    rw [Nat.testBit_and]
    cases h1 : a.testBit i <;> cases h2 : b.testBit i <;> simp_all
/-- The observers of a mask as numbers. -/
def obsI (m : Nat) : List Int := (obsF m).map fun x => (x.val : Int)
theorem mem_obsI (m : Nat) (i : Nat) (hi : i < 32) : decide ((i : Int) ∈ obsI m) = m.testBit i := by
  cases h : m.testBit i with
  | true =>
    refine decide_eq_true ?_
    unfold obsI obsF
    exact List.mem_map.2 ⟨⟨i, hi⟩, List.mem_filter.2 ⟨List.mem_finRange _, h⟩, rfl⟩
  | false =>
    refine decide_eq_false fun hm => ?_
    unfold obsI obsF at hm
    obtain ⟨x, hx, e⟩ := List.mem_map.1 hm
    have h2 := (List.mem_filter.1 hx).2
    rw [show x.val = i by omega] at h2
    rw [h] at h2; cases h2
theorem laws_9 {a : Nat} (ha : a < 4294967296) : withN 0 (obsI a) = a := by
  refine eq_of_bits (withN_lt _ _ (by omega)) ha fun i hi => ?_
  rw [withN_bit _ _ _ hi, Nat.zero_testBit, Bool.false_or, mem_obsI a i hi]
end Go.Proofs.YthafmgcflbdjpaaDoor
