/- What the references of layer 1 come to, in plain words: Cut, Same, Join, Low, Value. -/
import Derived.Test.YthllblcbmpehlaaR
import Derived.Test.YthllblcbmpehlaaA
namespace Go.Proofs.Ythllblcbmpehlaa
open Go.RowKit Go.Proofs.YthllblcbmpehlaaW.PrintWords Go.Proofs.YthllblcbmpehlaaW.PrintLast Go.Proofs.YthllblcbmpehlaaW.PrintMore
set_option linter.unusedVariables false
set_option linter.unusedSimpArgs false

theorem w64 {n : Int} (h : -9223372036854775808 ≤ n ∧ n ≤ 9223372036854775807) : wrap64 n = n := by unfold wrap64; omega
theorem next64 {i : Nat} (h : i < 9223372036854775807) : wrap64 ((i : Int) + 1) = ((i + 1 : Nat) : Int) := by unfold wrap64; omega
theorem takes {α : Type} {l : List α} {i j : Nat} (h : min i l.length = min j l.length) : l.take i = l.take j := List.take_eq_take_iff.2 h

/-! ### Cut -/
theorem cut_l0 (l : List Int) (m : Nat) (hl : min m l.length < 140737488355328) (hn : l.length ≤ 9223372036854775807) : ∀ (d k i : Nat), i + d = l.length → d < k →
    hoodwinkref01_Cut.l0 k (m : Int) (l.take (min i m)) l (l.length : Int) (i : Int) = some (l.take m)
  | 0, k, i, hi, hk => by
    obtain ⟨k, rfl⟩ : ∃ q, k = q + 1 := ⟨k - 1, by omega⟩
    simp only [hoodwinkref01_Cut.l0]
    rw [if_neg (by omega), takes (by omega : min (min i m) l.length = min m l.length)]
  | d + 1, k, i, hi, hk => by
    obtain ⟨k, rfl⟩ : ∃ q, k = q + 1 := ⟨k - 1, by omega⟩
    have hil : i < l.length := by omega
    have ih := cut_l0 l m hl hn d k (i + 1) (by omega) (by omega)
    simp only [hoodwinkref01_Cut.l0]
    rw [if_pos (by omega), if_pos (by omega), if_pos (by omega), next64 (by omega)]
    by_cases h : i < m
    · rw [if_pos (by omega), if_pos (by rw [List.length_take]; omega), rd_getElem hil, ← ih]
      rw [show min i m = i by omega, show min (i + 1) m = i + 1 by omega, take_snoc hil]
    · rw [if_neg (by omega), ← ih, show min (i + 1) m = min i m by omega]
theorem cut_f (l : List Int) (m : Int) (hm : 0 ≤ m) (hl : m ≤ 140737488351232) (hn : l.length ≤ 9223372036854775807) : hoodwinkref01_Cut.f (l.length + 1) l m = some (l.take m.toNat) := by
  have := cut_l0 l m.toNat (by omega) hn l.length (l.length + 1) 0 (by omega) (by omega)
  rw [Int.toNat_of_nonneg hm] at this
  simpa [hoodwinkref01_Cut.f] using this
theorem cut_any (A : Option Addr) (n c : Nat) (l : List Int) (m : Int) (w : World) (hr : (Kd.int .u8).C w A n l) (hc : n ≤ c) (hm : 0 ≤ m ∧ m ≤ 140737488351232) :
    Calls Try.prog 22 #[.slice A n c, .int .i64 m] w fun e w' => ∃ v, e = .returned v ∧ (Kd.int .u8).R 5 w' w.heap.size (fun _ => True) v (l.take m.toNat) ∧ Below w.heap.size w w' := by
  have hn := hr.2.1
  obtain rfl := hr.1
  exact hoodwinkref01_Cut.calls (l.length + 1) A c l m _ w hr hc (cut_f l m hm.1 hm.2 hn)

/-! ### Same -/
theorem same_l0 (x y : List Int) (hl : x.length = y.length) (hx : x.length ≤ 9223372036854775807) : ∀ (d k i : Nat), i + d = x.length → d < k →
    hoodwinkref01_Same.l0 k x y (x.length : Int) (i : Int) = some (decide (x.drop i = y.drop i))
  | 0, k, i, hi, hk => by
    obtain ⟨k, rfl⟩ : ∃ q, k = q + 1 := ⟨k - 1, by omega⟩
    simp only [hoodwinkref01_Same.l0]
    rw [if_neg (by omega), List.drop_of_length_le (by omega), List.drop_of_length_le (by omega)]
    simp
  | d + 1, k, i, hi, hk => by
    obtain ⟨k, rfl⟩ : ∃ q, k = q + 1 := ⟨k - 1, by omega⟩
    have ih := same_l0 x y hl hx d k (i + 1) (by omega) (by omega)
    have hix : i < x.length := by omega
    have hiy : i < y.length := by omega
    simp only [hoodwinkref01_Same.l0]
    rw [if_pos (by omega), if_pos (by omega), if_pos (by omega), if_pos (by omega), next64 (by omega), rd_getElem hix, rd_getElem hiy]
    have e : decide (x.drop i = y.drop i) = decide (x[i] = y[i] ∧ x.drop (i + 1) = y.drop (i + 1)) :=
      decide_eq_decide.2 (by rw [List.drop_eq_getElem_cons hix, List.drop_eq_getElem_cons hiy, List.cons.injEq])
    rw [e]
    by_cases h : x[i] = y[i]
    · rw [if_pos h, ih]; exact congrArg some (decide_eq_decide.2 ⟨fun q => ⟨h, q⟩, fun q => q.2⟩)
    · rw [if_neg h, decide_eq_false (fun q => h q.1)]
theorem same_f (x y : List Int) (hx : x.length ≤ 9223372036854775807) : hoodwinkref01_Same.f (x.length + 1) x y = some (decide (x = y)) := by
  unfold hoodwinkref01_Same.f
  by_cases h : x.length = y.length
  · rw [if_pos (by omega)]
    have := same_l0 x y h hx x.length (x.length + 1) 0 (by omega) (by omega)
    simpa using this
  · rw [if_neg (by omega)]
    have : x ≠ y := fun e => h (by rw [e])
    simp [this]
theorem same_any (A B : Option Addr) (n m c c' : Nat) (x y : List Int) (w : World) (hx : (Kd.int .u8).C w A n x) (hc : n ≤ c) (hy : (Kd.int .u8).C w B m y) (hc' : m ≤ c') :
    Calls Try.prog 14 #[.slice A n c, .slice B m c'] w fun e w' => e = .returned (.bool (decide (x = y))) ∧ Drawn0 w w' := by
  have hm := hx.2.1
  obtain rfl := hx.1
  obtain rfl := hy.1
  exact hoodwinkref01_Same.calls (x.length + 1) A c x B c' y _ w hx hc hy hc' (same_f x y hm)

theorem same_is (β : Bool) (A B : Option Addr) (n m c c' : Nat) (x y : List Int) (w : World) (hx : (Kd.int .u8).C w A n x) (hc : n ≤ c) (hy : (Kd.int .u8).C w B m y) (hc' : m ≤ c') (h : decide (x = y) = β) :
    Calls Try.prog 14 #[.slice A n c, .slice B m c'] w fun e w' => e = .returned (.bool β) ∧ Drawn0 w w' := by
  subst h; exact same_any A B n m c c' x y w hx hc hy hc'

/-! ### Join -/
theorem rdL_getElem {xs : List (List Int)} {j : Nat} (h : j < xs.length) : rd_L2 xs (j : Int) = xs[j] := by
  unfold rd_L2; rw [List.getD_eq_getElem?_getD, Int.toNat_natCast, List.getElem?_eq_getElem h]; rfl
theorem flatten_take_le : ∀ (l : List (List Int)) (i : Nat), (l.take i).flatten.length ≤ l.flatten.length
  | [], i => by simp
  | x :: l, 0 => by simp
  | x :: l, i + 1 => by have := flatten_take_le l i; simp; simp at this; omega
theorem join_l0 (l : List (List Int)) (hl : l.flatten.length < 140737488355328) (hn : l.length ≤ 9223372036854775807) : ∀ (d k i : Nat), i + d = l.length → d < k →
    hoodwinkref01_Join.l0 k (l.take i).flatten l (l.length : Int) (i : Int) = some l.flatten
  | 0, k, i, hi, hk => by
    obtain ⟨k, rfl⟩ : ∃ q, k = q + 1 := ⟨k - 1, by omega⟩
    simp only [hoodwinkref01_Join.l0]
    rw [if_neg (by omega), List.take_of_length_le (by omega)]
  | d + 1, k, i, hi, hk => by
    obtain ⟨k, rfl⟩ : ∃ q, k = q + 1 := ⟨k - 1, by omega⟩
    have hil : i < l.length := by omega
    have ih := join_l0 l hl hn d k (i + 1) (by omega) (by omega)
    have he : (l.take (i + 1)).flatten = (l.take i).flatten ++ l[i] := by rw [take_snoc hil, List.flatten_append]; simp
    have hle := flatten_take_le l (i + 1)
    rw [he, List.length_append] at hle
    simp only [hoodwinkref01_Join.l0]
    rw [if_pos (by omega), if_pos (by omega), if_pos (by omega), rdL_getElem hil, if_pos (by omega), next64 (by omega), ← he, ih]
theorem join_f (l : List (List Int)) (hl : l.flatten.length < 140737488355328) (hn : l.length ≤ 9223372036854775807) : hoodwinkref01_Join.f (l.length + 1) l = some l.flatten := by
  have := join_l0 l hl hn l.length (l.length + 1) 0 (by omega) (by omega)
  simpa [hoodwinkref01_Join.f] using this
theorem join_any (A : Option Addr) (n c : Nat) (l : List (List Int)) (w : World) (hr : (Kd.slice 5 (Kd.int .u8)).C w A n l) (hc : n ≤ c) (hl : l.flatten.length < 140737488355328) :
    Calls Try.prog 12 #[.slice A n c] w fun e w' => ∃ v, e = .returned v ∧ (Kd.int .u8).R 5 w' w.heap.size (fun _ => True) v l.flatten ∧ Below w.heap.size w w' := by
  have hm := hr.2.1
  obtain rfl := hr.1
  exact hoodwinkref01_Join.calls (l.length + 1) A c l _ w hr hc (join_f l hl hm)

end Go.Proofs.Ythllblcbmpehlaa
