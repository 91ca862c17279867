/- The document's Right is the program's. -/
import Derived.Test.YthimlgkegobaeaaDoorCd
namespace Go.Proofs.YthimlgkegobaeaaDoor
open Go.RowKit Go.Shelf Go.Proofs.YthimlgkegobaeaaDoorW.PrintWords Go.Proofs.YthimlgkegobaeaaDoorW.PrintLast Go.Proofs.YthimlgkegobaeaaDoorW.PrintMore
set_option linter.unusedVariables false
set_option linter.unusedSimpArgs false

/-- What an operation uses, in letters. -/
def partL : List (List UInt8) := [[], [65, 110], [65, 99], [65, 99], [65, 66, 99], [65, 66, 99], [65, 66, 67], [65, 66, 67], [65, 66, 67], [65, 66, 67], [65, 66, 67], [65, 66, 67], [65, 66, 67], [65, 66, 67], [65, 66, 67], [65, 66, 67], [65, 66, 67], [65, 66, 67], [65, 66, 67], [65, 112], [112], [65, 109], [66, 99, 75], [65, 115], [114], [65]]
def partU (op : Nat) : ByteArray := ⟨(partL.getD op []).toArray⟩
theorem parts_f : ∀ op : Fin 26, hoodwinkref08_Parts.f 40 (op.val : Int) = some (wordN op.val, partU op.val) := by decide +kernel
theorem parts_no : ∀ op : Fin 256, 26 ≤ op.val → hoodwinkref08_Parts.f 40 (op.val : Int) = some (⟨#[]⟩, ⟨#[]⟩) := by decide +kernel
theorem has_a : ∀ op : Fin 26, hoodwinkref08_has.f 40 (partU op.val) 65 = some (useO op.val).a := by decide +kernel
theorem has_b : ∀ op : Fin 26, hoodwinkref08_has.f 40 (partU op.val) 66 = some (useO op.val).b := by decide +kernel
theorem has_m : ∀ op : Fin 26, hoodwinkref08_has.f 40 (partU op.val) 75 = some (useO op.val).m := by decide +kernel
theorem has_r : ∀ op : Fin 26, hoodwinkref08_has.f 39 (partU op.val) 114 = some (decide ((useO op.val).n = 6)) := by decide +kernel
theorem has_c : ∀ op : Fin 26, (useO op.val).n ≠ 6 → hoodwinkref08_has.f 39 (partU op.val) 67 = some (useO op.val).c := by decide +kernel
theorem has_1 : ∀ op : Fin 26, hoodwinkref08_has.f 38 (partU op.val) 110 = some (decide ((useO op.val).n = 1)) := by decide +kernel
theorem has_2 : ∀ op : Fin 26, hoodwinkref08_has.f 38 (partU op.val) 99 = some (decide ((useO op.val).n = 2)) := by decide +kernel
theorem has_3 : ∀ op : Fin 26, hoodwinkref08_has.f 38 (partU op.val) 112 = some (decide ((useO op.val).n = 3)) := by decide +kernel
theorem has_4 : ∀ op : Fin 26, hoodwinkref08_has.f 38 (partU op.val) 109 = some (decide ((useO op.val).n = 4)) := by decide +kernel
theorem has_5 : ∀ op : Fin 26, hoodwinkref08_has.f 38 (partU op.val) 115 = some (decide ((useO op.val).n = 5)) := by decide +kernel
theorem use_6 : ∀ op : Fin 26, (useO op.val).n = 6 → (useO op.val).a = false ∧ (useO op.val).b = false ∧ (useO op.val).m = false := by decide +kernel
theorem wordN_ne : ∀ op : Fin 26, ¬ (wordN op.val).toList = [] := by
  intro op h
  have := word_ne2 op.val op.isLt
  rw [h] at this
  cases this
theorem w64c {n : Int} (h : -2147483648 ≤ n ∧ n < 2147483648) : wrap64 n = n := by unfold wrap64; omega
theorem or_zero {a b : Nat} : a ||| b = 0 ↔ a = 0 ∧ b = 0 := by
  constructor
  · intro h
    have h1 := Nat.left_le_or (n := a) (m := b)
    have h2 := Nat.right_le_or (n := a) (m := b)
    omega
  · rintro ⟨rfl, rfl⟩; rfl
theorem regB_iff (u : Bool) (r : Nat) : regB u r = (decide (r = 0) || (u && decide (r < 8))) := by
  unfold regB
  congr 1
set_option maxRecDepth 100000 in
theorem right1 (op : Fin 26) (a b c : Nat) (n : Int) (m : Nat) (size cells players : Int) :
    hoodwinkref08_Right.f 40 op.val a b c n m size cells players = hoodwinkref08_Right.j0 40 size cells players (partU op.val) (!(regB (useO op.val).a a && regB (useO op.val).b b && ((useO op.val).m || decide (m = 0)))) op.val a b c n m := by
  unfold hoodwinkref08_Right.f
  rw [parts_f op, Option.bind_some]
  simp only []
  rw [if_neg (wordN_ne op), has_a op, has_b op, has_m op]
  simp only [Option.bind_some, regB_iff]
  by_cases ha : a = 0
  · subst ha
    rw [if_neg (by simp)]
    by_cases hb : b = 0
    · subst hb
      rw [if_neg (by simp)]
      by_cases hm : m = 0
      · subst hm; rw [if_neg (by simp)]; simp
      · rw [if_pos (by omega)]; simp [hm]
    · rw [if_pos (by omega)]
      cases hub : (useO op.val).b with
      | false => simp [hb]
      | true =>
        by_cases hb8 : b < 8
        · rw [if_pos rfl, if_neg (by omega)]
          by_cases hm : m = 0
          · subst hm; rw [if_neg (by simp)]; simp [hb8]
          · rw [if_pos (by omega)]; simp [hm, hb8]
        · rw [if_pos rfl, if_pos (by omega)]; simp [hb, hb8]
  · rw [if_pos (by omega)]
    cases hua : (useO op.val).a with
    | false => simp [ha]
    | true =>
      by_cases ha8 : a < 8
      · rw [if_pos rfl, if_neg (by omega)]
        by_cases hb : b = 0
        · subst hb
          rw [if_neg (by simp)]
          by_cases hm : m = 0
          · subst hm; rw [if_neg (by simp)]; simp [ha8]
          · rw [if_pos (by omega)]; simp [hm, ha8]
        · rw [if_pos (by omega)]
          cases hub : (useO op.val).b with
          | false => simp [hb]
          | true =>
            by_cases hb8 : b < 8
            · rw [if_pos rfl, if_neg (by omega)]
              by_cases hm : m = 0
              · subst hm; rw [if_neg (by simp)]; simp [hb8, ha8]
              · rw [if_pos (by omega)]; simp [hm, hb8, ha8]
            · rw [if_pos rfl, if_pos (by omega)]; simp [hb, hb8]
      · rw [if_pos rfl, if_pos (by omega)]; simp [ha, ha8]
set_option maxRecDepth 100000 in
theorem right2 (op : Fin 26) (a b c : Nat) (n : Int) (m : Nat) (size cells players : Int) (hc : c < 256) (hn : -2147483648 ≤ n ∧ n < 2147483648) :
    hoodwinkref08_Right.j0 40 size cells players (partU op.val) (!(regB (useO op.val).a a && regB (useO op.val).b b && ((useO op.val).m || decide (m = 0)))) op.val a b c n m = some (rightU (useO op.val) a b c n m size cells players) := by
  have h6 := use_6 op
  have hn6 := useO_n op.val op.isLt
  rw [hoodwinkref08_Right.j0, has_r op]
  simp only [Option.bind_some, w64c hn]
  by_cases h : (useO op.val).n = 6
  · obtain ⟨e1, e2, e3⟩ := h6 h
    unfold rightU
    rw [if_pos h, e1, e2, e3, decide_eq_true h]
    have hw : wrap64 (n + wrap64 (c : Int)) = n + c := by unfold wrap64; omega
    rw [hw]
    simp only [regB_false, Bool.false_or, or_zero]
    by_cases ha : a = 0 <;> by_cases hb : b = 0 <;> by_cases hm : m = 0 <;> simp [ha, hb, hm]
    by_cases h1 : 0 < c
    · rw [if_pos h1]
      by_cases h2 : c < 49
      · rw [if_pos (by omega)]
        by_cases h3 : 0 ≤ n
        · rw [if_pos h3]
          by_cases h4 : n < cells
          · rw [if_pos h4]; congr 1
            have : 1 ≤ c ∧ c ≤ 48 := by omega
            simp [h3, this]
          · rw [if_neg h4]; congr 1
            have : ¬ n + (c : Int) ≤ cells := by omega
            simp [this]
        · rw [if_neg h3]; simp [h3]
      · rw [if_neg (by omega)]
        have : ¬ c ≤ 48 := by omega
        simp [this]
    · rw [if_neg h1]
      have : ¬ 1 ≤ c := by omega
      simp [this]
  · rw [has_c op h, decide_eq_false h]
    unfold rightU
    rw [if_neg h]
    have e1 : (if (c : Int) > 0 then ((some (useO op.val).c).bind fun t158 => (if t158 = true then (hoodwinkref08_Right.j1 39 size cells players (partU op.val) n (decide ((c : Int) > 7))) else (hoodwinkref08_Right.j1 39 size cells players (partU op.val) n true))) else (hoodwinkref08_Right.j1 39 size cells players (partU op.val) n false)) = hoodwinkref08_Right.j1 39 size cells players (partU op.val) n (!(regB (useO op.val).c c)) := by
      simp only [regB_iff, Option.bind_some]
      by_cases hc0 : c = 0
      · subst hc0; rw [if_neg (by simp)]; simp
      · rw [if_pos (by omega)]
        cases huc : (useO op.val).c with
        | false => simp [hc0]
        | true =>
          by_cases h8 : c < 8
          · have : ¬ (c : Int) > 7 := by omega
            simp [hc0, h8, this]
          · have : (c : Int) > 7 := by omega
            simp [hc0, h8, this]
    rw [e1]
    have e2 : hoodwinkref08_Right.j1 39 size cells players (partU op.val) n (!(regB (useO op.val).c c)) = some (regB (useO op.val).c c && numB (useO op.val).n n size cells players) := by
      rw [hoodwinkref08_Right.j1, has_1 op, has_2 op, has_3 op, has_4 op, has_5 op]
      simp only [Option.bind_some, numB]
      cases regB (useO op.val).c c with
      | false => rfl
      | true =>
        simp only [Bool.not_true, Bool.true_and, Bool.false_eq_true, if_false]
        generalize (useO op.val).n = k at hn6 h
        have hk : k = 0 ∨ k = 1 ∨ k = 2 ∨ k = 3 ∨ k = 4 ∨ k = 5 := by omega
        rcases hk with rfl | rfl | rfl | rfl | rfl | rfl <;> simp
        · by_cases h0 : n = 0 <;> simp [h0]
        all_goals (by_cases h0 : 0 ≤ n <;> (try simp [h0]))
        all_goals (try omega)
    rw [e2]
    generalize regB (useO op.val).a a = r1
    generalize regB (useO op.val).b b = r2
    generalize regB (useO op.val).c c = r3
    generalize numB (useO op.val).n n size cells players = r4
    generalize ((useO op.val).m || decide (m = 0)) = r5
    cases r1 <;> cases r2 <;> cases r3 <;> cases r4 <;> cases r5 <;> rfl
/-- The document's Right. -/
theorem right08_f (op a b c : Nat) (n : Int) (m : Nat) (size cells players : Int) (h0 : op < 256) (hc : c < 256) (hn : -2147483648 ≤ n ∧ n < 2147483648) :
    hoodwinkref08_Right.f 40 op a b c n m size cells players = some (rightB op a b c n m size cells players) := by
  unfold rightB
  by_cases h : op < 26
  · rw [right1 ⟨op, h⟩, right2 ⟨op, h⟩ a b c n m size cells players hc hn, decide_eq_true h, Bool.true_and]
  · unfold hoodwinkref08_Right.f
    rw [parts_no ⟨op, h0⟩ (by simpa using h), Option.bind_some, decide_eq_false h, Bool.false_and]
    simp only []
    rw [if_pos (by decide +kernel)]
theorem right08_any (op a b c : Nat) (n : Int) (m : Nat) (size cells players : Int) (h0 : op < 256) (hc : c < 256) (hn : -2147483648 ≤ n ∧ n < 2147483648) (w : World) :
    Calls Tryd.prog 11 #[.agg #[.int .u8 op, .int .u8 a, .int .u8 b, .int .u8 c, .int .i32 n, .int .u32 m], .int .i64 size, .int .i64 cells, .int .i64 players] w fun e w' => e = .returned (.bool (rightB op a b c n m size cells players)) ∧ Below w.heap.size w w' :=
  hoodwinkref08_Right.calls 40 _ _ _ _ _ _ _ _ _ _ w (right08_f op a b c n m size cells players h0 hc hn)
theorem parts_any (op : Nat) (h : op < 26) (w : World) :
    Calls Tryd.prog 14 #[.int .u8 op] w fun e w' => e = .returned (.tuple #[.string (wordN op), .string (partU op)]) ∧ Below w.heap.size w w' :=
  hoodwinkref08_Parts.calls 40 _ _ _ w (parts_f ⟨op, h⟩)
end Go.Proofs.YthimlgkegobaeaaDoor
