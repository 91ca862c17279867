/- The mask's functions in plain words: sets of bits. -/
import Derived.Test.YthafmgcflbdjpaaDoorA
import Derived.Test.YthafmgcflbdjpaaDoorR
import Derived.Test.YthafmgcflbdjpaaDoorR2
import Derived.Test.YthafmgcflbdjpaaDoorMc
namespace Go.Proofs.YthafmgcflbdjpaaDoor
open Go.RowKit Go.Shelf Go.Proofs.YthafmgcflbdjpaaDoorW.PrintWords Go.Proofs.YthafmgcflbdjpaaDoorW.PrintLast Go.Proofs.YthafmgcflbdjpaaDoorW.PrintMore
set_option linter.unusedVariables false
set_option linter.unusedSimpArgs false

/-- An observer's bit. -/
def oneN (o : Int) : Nat := if 0 ≤ o ∧ o < 32 then 2 ^ o.toNat else 0
theorem oneN_lt (o : Int) : oneN o < 4294967296 := by
  unfold oneN; split
  · have : 2 ^ o.toNat ≤ 2 ^ 31 := Nat.pow_le_pow_right (by omega) (by omega)
    omega
  · omega
theorem shl_one : ∀ i : Fin 32, shl .u32 1 (i.val : Int) = ((2 ^ i.val : Nat) : Int) := by decide
theorem one_f (o : Int) : mask_one.f o = some ((oneN o : Nat) : Int) := by
  unfold mask_one.f oneN
  by_cases h0 : o < 0
  · rw [if_pos h0, if_neg (by omega)]; rfl
  · rw [if_neg h0]
    by_cases h1 : o ≥ 32
    · rw [if_pos h1, if_neg (by omega)]; rfl
    · rw [if_neg h1, if_pos (by omega), if_pos (by omega)]
      have := shl_one ⟨o.toNat, by omega⟩
      rw [show ((⟨o.toNat, by omega⟩ : Fin 32).val : Int) = o by simp; omega] at this
      rw [this]
theorem oneN_bit (o : Int) (i : Nat) : (oneN o).testBit i = (decide (o = (i : Int)) && decide (i < 32)) := by
  unfold oneN
  split
  · rename_i h
    rw [Nat.testBit_two_pow]
    by_cases e : o = (i : Int)
    · have : o.toNat = i := by omega
      simp [e]; omega
    · have : ¬ o.toNat = i := by omega
      simp [e, this]
  · rename_i h
    rw [Nat.zero_testBit]
    by_cases e : o = (i : Int)
    · have : ¬ i < 32 := by omega
      simp [this]
    · simp [e]
theorem eq_of_bits {a b : Nat} (ha : a < 4294967296) (hb : b < 4294967296) (h : ∀ i, i < 32 → a.testBit i = b.testBit i) : a = b := by
  refine Nat.eq_of_testBit_eq fun i => ?_
  by_cases hi : i < 32
  · exact h i hi
  · have e : 2 ^ 32 ≤ 2 ^ i := Nat.pow_le_pow_right (by omega) (by omega)
    rw [Nat.testBit_lt_two_pow (by omega), Nat.testBit_lt_two_pow (by omega)]
theorem wsucc (i : Nat) (h : i < 4611686018427387904) : wrap64 ((i : Int) + 1) = ((i + 1 : Nat) : Int) := by unfold wrap64; omega
theorem or_lt {a b : Nat} (ha : a < 4294967296) (hb : b < 4294967296) : a ||| b < 4294967296 := Nat.or_lt_two_pow (n := 32) ha hb
theorem and_lt {a b : Nat} (ha : a < 4294967296) : a &&& b < 4294967296 := Nat.lt_of_le_of_lt Nat.and_le_left ha

/-! ### With -/
def withN (a : Nat) (l : List Int) : Nat := l.foldl (fun m o => m ||| oneN o) a
theorem withN_lt : ∀ (l : List Int) (a : Nat), a < 4294967296 → withN a l < 4294967296
  | [], a, h => h
  | o :: l, a, h => withN_lt l _ (or_lt h (oneN_lt o))
theorem withN_bit : ∀ (l : List Int) (a i : Nat), i < 32 → (withN a l).testBit i = (a.testBit i || decide ((i : Int) ∈ l))
  | [], a, i, _ => by simp [withN]
  | o :: l, a, i, hi => by
    show (withN (a ||| oneN o) l).testBit i = _
    rw [withN_bit l _ i hi, Nat.testBit_or, oneN_bit, Bool.or_assoc]
    simp only [hi, decide_true, Bool.and_true, List.mem_cons, eq_comm (a := o)]
    congr 1
    by_cases h1 : (i : Int) = o <;> by_cases h2 : (i : Int) ∈ l <;> simp [h1, h2]
theorem with_l0 (l : List Int) (hl : l.length < 4611686018427387904) : ∀ (k i a : Nat), a < 4294967296 → i ≤ l.length → l.length - i < k →
    mask_Mask_With.l0 k (a : Int) l (l.length : Int) (i : Int) = some ((withN a (l.drop i) : Nat) : Int)
  | 0, _, _, _, _, h => by omega
  | k + 1, i, a, ha, hi, hk => by
    rw [mask_Mask_With.l0]
    by_cases h : i < l.length
    · rw [if_pos (by omega), if_pos (by omega), if_pos (by omega), rd_getElem h, one_f, Option.bind_some, u32_or_nat _ _ ha (oneN_lt _), wsucc i (by omega),
        with_l0 l hl k (i + 1) _ (or_lt ha (oneN_lt _)) (by omega) (by omega), List.drop_eq_getElem_cons h]
      rfl
    · rw [if_neg (by omega), List.drop_eq_nil_of_le (by omega)]; rfl
theorem with_f (l : List Int) (hl : l.length < 4611686018427387904) (a : Nat) (ha : a < 4294967296) : mask_Mask_With.f (l.length + 1) (a : Int) l = some ((withN a l : Nat) : Int) := by
  unfold mask_Mask_With.f
  have := with_l0 l hl (l.length + 1) 0 a ha (by omega) (by omega)
  simpa using this
theorem of_f (l : List Int) (hl : l.length < 4611686018427387904) : mask_Of.f (l.length + 1) l = some ((withN 0 l : Nat) : Int) := by
  unfold mask_Of.f
  rw [show (0 : Int) = ((0 : Nat) : Int) from rfl, with_f l hl 0 (by omega), Option.bind_some]

/-! ### Meet, Join -/
def meetN (a : Nat) (l : List Nat) : Nat := l.foldl (· &&& ·) a
def joinN (a : Nat) (l : List Nat) : Nat := l.foldl (· ||| ·) a
def natI (l : List Nat) : List Int := l.map fun (x : Nat) => (x : Int)
theorem natI_get (l : List Nat) (i : Nat) (h : i < l.length) : rd (natI l) (i : Int) = (l[i] : Int) := by
  rw [rd_getElem (by simpa [natI] using h)]; simp [natI]
theorem meet_l0 (l : List Nat) (hb : ∀ x ∈ l, x < 4294967296) (hl : l.length < 4611686018427387904) : ∀ (k i a : Nat), a < 4294967296 → i ≤ l.length → l.length - i < k →
    mask_Mask_Meet.l0 k (a : Int) (natI l) ((natI l).length : Int) (i : Int) = some ((meetN a (l.drop i) : Nat) : Int)
  | 0, _, _, _, _, h => by omega
  | k + 1, i, a, ha, hi, hk => by
    have hn : (natI l).length = l.length := by simp [natI]
    rw [mask_Mask_Meet.l0]
    by_cases h : i < l.length
    · rw [if_pos (by omega), if_pos (by omega), if_pos (by omega), natI_get l i h, u32_and_nat _ _ ha (hb _ (List.getElem_mem h)), wsucc i (by omega),
        meet_l0 l hb hl k (i + 1) _ (and_lt ha) (by omega) (by omega), List.drop_eq_getElem_cons h]
      rfl
    · rw [if_neg (by omega), List.drop_eq_nil_of_le (by omega)]; rfl
theorem meet_f (l : List Nat) (hb : ∀ x ∈ l, x < 4294967296) (hl : l.length < 4611686018427387904) (a : Nat) (ha : a < 4294967296) : mask_Mask_Meet.f (l.length + 1) (a : Int) (natI l) = some ((meetN a l : Nat) : Int) := by
  unfold mask_Mask_Meet.f
  have := meet_l0 l hb hl (l.length + 1) 0 a ha (by omega) (by omega)
  simpa using this
theorem join_l0 (l : List Nat) (hb : ∀ x ∈ l, x < 4294967296) (hl : l.length < 4611686018427387904) : ∀ (k i a : Nat), a < 4294967296 → i ≤ l.length → l.length - i < k →
    mask_Mask_Join.l0 k (a : Int) (natI l) ((natI l).length : Int) (i : Int) = some ((joinN a (l.drop i) : Nat) : Int)
  | 0, _, _, _, _, h => by omega
  | k + 1, i, a, ha, hi, hk => by
    have hn : (natI l).length = l.length := by simp [natI]
    rw [mask_Mask_Join.l0]
    by_cases h : i < l.length
    · rw [if_pos (by omega), if_pos (by omega), if_pos (by omega), natI_get l i h, u32_or_nat _ _ ha (hb _ (List.getElem_mem h)), wsucc i (by omega),
        join_l0 l hb hl k (i + 1) _ (or_lt ha (hb _ (List.getElem_mem h))) (by omega) (by omega), List.drop_eq_getElem_cons h]
      rfl
    · rw [if_neg (by omega), List.drop_eq_nil_of_le (by omega)]; rfl
theorem join_f (l : List Nat) (hb : ∀ x ∈ l, x < 4294967296) (hl : l.length < 4611686018427387904) (a : Nat) (ha : a < 4294967296) : mask_Mask_Join.f (l.length + 1) (a : Int) (natI l) = some ((joinN a l : Nat) : Int) := by
  unfold mask_Mask_Join.f
  have := join_l0 l hb hl (l.length + 1) 0 a ha (by omega) (by omega)
  simpa using this

/-! ### Less, Within, Has, All -/
def lessN (a b : Nat) : Nat := a &&& (4294967295 - b)
theorem lessN_bit (a b i : Nat) (hb : b < 4294967296) (hi : i < 32) : (lessN a b).testBit i = (a.testBit i && !b.testBit i) := by
  unfold lessN
  rw [Nat.testBit_and, show 4294967295 - b = 2 ^ 32 - (b + 1) by omega, Nat.testBit_two_pow_sub_succ (by omega)]
  simp [hi]
theorem less_f (a b : Nat) (ha : a < 4294967296) (hb : b < 4294967296) : mask_Mask_Less.f (a : Int) (b : Int) = some ((lessN a b : Nat) : Int) := by
  unfold mask_Mask_Less.f; rw [u32_andNot_nat a b ha hb]; rfl
theorem within_f (a b : Nat) (ha : a < 4294967296) (hb : b < 4294967296) : mask_Mask_Within.f (a : Int) (b : Int) = some (lessN a b == 0) := by
  unfold mask_Mask_Within.f; rw [u32_andNot_nat a b ha hb]
  congr 1
  show ((((lessN a b : Nat) : Int)) == 0) = _
  by_cases h : lessN a b = 0
  · rw [h]; rfl
  · rw [beq_eq_false_iff_ne.2 h, beq_eq_false_iff_ne.2 (by omega)]
def hasN (a : Nat) (o : Int) : Bool := decide (0 ≤ o ∧ o < 32) && a.testBit o.toNat
theorem has_f (a : Nat) (ha : a < 4294967296) (o : Int) : mask_Mask_Has.f (a : Int) o = some (hasN a o) := by
  unfold mask_Mask_Has.f
  rw [one_f, Option.bind_some, u32_and_nat _ _ ha (oneN_lt o)]
  congr 1
  have key : (a &&& oneN o = 0) ↔ hasN a o = false := by
    constructor
    · intro hz
      cases e : hasN a o with
      | false => rfl
      | true =>
        unfold hasN at e
        simp only [Bool.and_eq_true, decide_eq_true_eq] at e
        have h1 : (a &&& oneN o).testBit o.toNat = true := by
          rw [Nat.testBit_and, oneN_bit, e.2, decide_eq_true (by omega : o = ((o.toNat : Nat) : Int)), decide_eq_true (by omega : o.toNat < 32)]; rfl
        rw [hz, Nat.zero_testBit] at h1
        cases h1
    · intro e
      refine Nat.eq_of_testBit_eq fun i => ?_
      rw [Nat.testBit_and, oneN_bit, Nat.zero_testBit]
      by_cases h1 : o = (i : Int)
      · by_cases h2 : i < 32
        · unfold hasN at e
          rw [decide_eq_true (by omega : 0 ≤ o ∧ o < 32), Bool.true_and, show o.toNat = i by omega] at e
          simp [e]
        · simp [h2]
      · simp [h1]
  by_cases hz : a &&& oneN o = 0
  · rw [hz, key.1 hz]; rfl
  · have : hasN a o = true := by cases e : hasN a o; exact absurd (key.2 e) hz; rfl
    rw [this]
    exact bne_iff_ne.2 (by omega)
def allN (n : Int) : Nat := 2 ^ (min (max n 0) 32).toNat - 1
theorem all_tab : ∀ j : Fin 33, (IntKind.u64.wrap ((IntKind.u64.wrap (2 ^ j.val)) - 1)) % 4294967296 = ((2 ^ j.val - 1 : Nat) : Int) := by decide
theorem all_f (n : Int) : mask_All.f n = some ((allN n : Nat) : Int) := by
  unfold mask_All.f allN
  have e : mn (mx n 0) 32 = min (max n 0) 32 := by unfold mn mx; (repeat' split) <;> omega
  rw [e]
  exact congrArg some (all_tab ⟨(min (max n 0) 32).toNat, by omega⟩)
theorem allN_lt (n : Int) : allN n < 4294967296 := by
  unfold allN
  have : 2 ^ (min (max n 0) 32).toNat ≤ 2 ^ 32 := Nat.pow_le_pow_right (by omega) (by omega)
  omega
theorem allN_bit (n : Int) (i : Nat) (hi : i < 32) : (allN n).testBit i = decide ((i : Int) < n) := by
  unfold allN
  rw [Nat.testBit_two_pow_sub_one]
  by_cases h : (i : Int) < n
  · simp only [h, decide_true, decide_eq_true_eq]; omega
  · simp only [h, decide_false, decide_eq_false_iff_not]; omega
end Go.Proofs.YthafmgcflbdjpaaDoor
