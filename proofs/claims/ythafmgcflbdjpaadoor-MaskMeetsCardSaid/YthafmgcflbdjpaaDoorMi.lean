/- The reference's lists in plain words. -/
import Derived.Test.YthafmgcflbdjpaaDoorMh
import Derived.Test.YthafmgcflbdjpaaDoorR9
namespace Go.Proofs.YthafmgcflbdjpaaDoor
open Go.RowKit Go.Shelf Go.Proofs.YthafmgcflbdjpaaDoorW.PrintWords Go.Proofs.YthafmgcflbdjpaaDoorW.PrintLast Go.Proofs.YthafmgcflbdjpaaDoorW.PrintMore
set_option linter.unusedVariables false
set_option linter.unusedSimpArgs false

/-- A set's numbers from i on. -/
def obsU (m i n : Nat) : List Int := ((List.range' i n).filter fun j => m.testBit j).map fun (j : Nat) => (j : Int)
theorem obsU_all (m : Nat) : obsU m 0 32 = obsI m := by
  have h := obsF_val m
  unfold obsL at h
  unfold obsU obsI
  rw [← List.range_eq_range', ← h, List.map_map]; rfl
theorem list_l0 (m : Nat) (hm : m < 4294967296) : ∀ (n i : Nat) (out : List Int), i + n = 32 → out.length ≤ i →
    hoodwinkref05_List.l0 (n + 1) ((m / 2 ^ i : Nat) : Int) out (i : Int) = some (out ++ obsU m i n)
  | 0, i, out, h, ho => by
    rw [hoodwinkref05_List.l0, if_neg (by omega)]; simp [obsU]
  | n + 1, i, out, h, ho => by
    have hlt : m / 2 ^ i < 4294967296 := Nat.lt_of_le_of_lt (Nat.div_le_self _ _) hm
    have hn := bit_next m i
    have e1 : Int.tmod ((m / 2 ^ i : Nat) : Int) 2 = ((m / 2 ^ i % 2 : Nat) : Int) := by rw [Int.tmod_eq_emod_of_nonneg (by omega)]; omega
    have e2 : Int.tdiv ((m / 2 ^ i : Nat) : Int) 2 % 4294967296 = ((m / 2 ^ (i + 1) : Nat) : Int) := by
      rw [Int.tdiv_eq_ediv_of_nonneg (by omega), Nat.pow_succ, ← Nat.div_div_eq_div_mul]; omega
    rw [hoodwinkref05_List.l0, if_pos (by omega), e1, e2, wsucc i (by omega)]
    have hr : obsU m i (n + 1) = (if m.testBit i then [(i : Int)] else []) ++ obsU m (i + 1) n := by
      unfold obsU
      rw [List.range'_succ, List.filter_cons]
      cases m.testBit i <;> simp
    rw [hr]
    cases hb : m.testBit i with
    | false =>
      rw [hb] at hn; simp only [Bool.toNat_false] at hn
      rw [if_neg (by omega), list_l0 m hm n (i + 1) out (by omega) (by omega)]; simp
    | true =>
      rw [hb] at hn; simp only [Bool.toNat_true] at hn
      rw [if_pos (by omega), if_pos (by omega), list_l0 m hm n (i + 1) _ (by omega) (by simp; omega)]; simp
theorem list_any (m : Nat) (hm : m < 4294967296) (w : World) :
    Calls Tryd.prog 10 #[.int .u32 m] w fun e w' => ∃ A c, e = .returned (.slice A (obsI m).length c) ∧ (obsI m).length ≤ c ∧ (Kd.int .i64).R 3 w' w.heap.size (fun _ => True) (.slice A (obsI m).length c) (obsI m) ∧ (Kd.int .i64).C w' A (obsI m).length (obsI m) ∧ Below w.heap.size w w' := by
  have h := list_l0 m hm 32 0 [] (by omega) (by simp)
  rw [Nat.pow_zero, Nat.div_one, List.nil_append, obsU_all] at h
  refine (hoodwinkref05_List.calls 33 _ _ w h).mono ?_
  rintro e w' ⟨v, rfl, hR, hb⟩
  obtain ⟨A, c, rfl, hle, hC⟩ := Kd.R_reads hR
  exact ⟨A, c, rfl, hle, hR, hC, hb⟩
theorem same_l0 (a b : List Int) (hab : a.length = b.length) (hl : a.length < 4611686018427387904) : ∀ (k i : Nat), i ≤ a.length → a.length - i < k →
    hoodwinklaw05_same.l0 k a b (a.length : Int) (i : Int) = some (decide (a.drop i = b.drop i))
  | 0, _, _, h => by omega
  | k + 1, i, hi, hk => by
    rw [hoodwinklaw05_same.l0]
    by_cases h : i < a.length
    · have h2 : i < b.length := by omega
      rw [if_pos (by omega), if_pos (by omega), if_pos (by omega), if_pos (by omega), rd_getElem h, rd_getElem h2, List.drop_eq_getElem_cons h, List.drop_eq_getElem_cons h2]
      by_cases e : a[i] = b[i]
      · rw [if_pos e, wsucc i (by omega), same_l0 a b hab hl k (i + 1) (by omega) (by omega)]
        congr 1; rw [decide_eq_decide, List.cons.injEq]; exact ⟨fun h => ⟨e, h⟩, fun h => h.2⟩
      · rw [if_neg e]
        congr 1; symm; apply decide_eq_false; rw [List.cons.injEq]; exact fun h => e h.1
    · rw [if_neg (by omega), List.drop_eq_nil_of_le (by omega), List.drop_eq_nil_of_le (by omega)]; simp
theorem same_any (A B : Option Addr) (c d : Nat) (a b : List Int) (w : World) (hr : (Kd.int .i64).C w A a.length a) (hc : a.length ≤ c) (hr2 : (Kd.int .i64).C w B b.length b) (hd : b.length ≤ d) (hl : a.length < 4611686018427387904) :
    Calls Tryd.prog 16 #[.slice A a.length c, .slice B b.length d] w fun e w' => e = .returned (.bool (decide (a = b))) ∧ Below w.heap.size w w' := by
  have h : hoodwinklaw05_same.f (a.length + 1) a b = some (decide (a = b)) := by
    unfold hoodwinklaw05_same.f
    by_cases e : a.length = b.length
    · rw [if_pos (by omega)]
      have := same_l0 a b e hl (a.length + 1) 0 (by omega) (by omega)
      rw [List.drop_zero, List.drop_zero] at this
      exact this
    · rw [if_neg (by omega)]
      congr 1; symm; apply decide_eq_false; exact fun h => e (by rw [h])
  exact (hoodwinklaw05_same.calls (a.length + 1) A c a B d b _ w hr hc hr2 hd h).mono fun e w' h => ⟨h.1, h.2.below⟩
theorem few_any (A : Option Addr) (c : Nat) (l : List Int) (w : World) (hr : (Kd.int .i64).C w A l.length l) (hc : l.length ≤ c) :
    Calls Tryd.prog 8 #[.slice A l.length c] w fun e w' => ∃ A c, e = .returned (.slice A (l.take 40).length c) ∧ (l.take 40).length ≤ c ∧ (Kd.int .i64).R 3 w' w.heap.size (fun _ => True) (.slice A (l.take 40).length c) (l.take 40) ∧ (Kd.int .i64).C w' A (l.take 40).length (l.take 40) ∧ Below w.heap.size w w' := by
  have h : hoodwinklaw05_few.f l = some (l.take 40) := by
    unfold hoodwinklaw05_few.f mn
    by_cases e : (40 : Int) < l.length
    · rw [if_pos e, Option.bind_some, if_pos (by omega), if_pos (by omega), if_pos (by simp; omega)]; simp
    · rw [if_neg e, Option.bind_some, if_pos (by omega), if_pos (by omega), if_pos (by simp; omega), show ((l.length : Nat) : Int).toNat = l.length by omega, List.take_of_length_le (Nat.le_refl _), List.take_of_length_le (by omega)]; rfl
  refine (hoodwinklaw05_few.calls A c l _ w hr hc h).mono ?_
  rintro e w' ⟨v, rfl, hR, hb⟩
  obtain ⟨A, c, rfl, hle, hC⟩ := Kd.R_reads hR
  exact ⟨A, c, rfl, hle, hR, hC, hb⟩
end Go.Proofs.YthafmgcflbdjpaaDoor
