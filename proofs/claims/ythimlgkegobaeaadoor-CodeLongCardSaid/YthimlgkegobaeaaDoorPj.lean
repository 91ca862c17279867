/- The document's Join, in plain words. -/
import Derived.Test.YthimlgkegobaeaaDoorR
import Derived.Test.YthimlgkegobaeaaDoorA
import Derived.Test.YthimlgkegobaeaaDoorR4
namespace Go.Proofs.YthimlgkegobaeaaDoor
open Go.RowKit Go.Proofs.YthimlgkegobaeaaDoorW.PrintWords Go.Proofs.YthimlgkegobaeaaDoorW.PrintLast Go.Proofs.YthimlgkegobaeaaDoorW.PrintMore
set_option linter.unusedVariables false
set_option linter.unusedSimpArgs false

theorem w64 {n : Int} (h : -9223372036854775808 ≤ n ∧ n ≤ 9223372036854775807) : wrap64 n = n := by unfold wrap64; omega
theorem next64 {i : Nat} (h : i < 9223372036854775807) : wrap64 ((i : Int) + 1) = ((i + 1 : Nat) : Int) := by unfold wrap64; omega
theorem takes {α : Type} {l : List α} {i j : Nat} (h : min i l.length = min j l.length) : l.take i = l.take j := List.take_eq_take_iff.2 h

/-! ### Join -/
theorem rdL_getElem {xs : List (List Int)} {j : Nat} (h : j < xs.length) : rd_L8 xs (j : Int) = xs[j] := by
  unfold rd_L8; rw [List.getD_eq_getElem?_getD, Int.toNat_natCast, List.getElem?_eq_getElem h]; rfl
theorem flatten_take_le : ∀ (l : List (List Int)) (i : Nat), (l.take i).flatten.length ≤ l.flatten.length
  | [], i => by simp
  | x :: l, 0 => by simp
  | x :: l, i + 1 => by have := flatten_take_le l i; simp; simp at this; omega
theorem join_l0 (l : List (List Int)) (hl : l.flatten.length < 140737488355328) (hn : l.length ≤ 9223372036854775807) : ∀ (d k i : Nat), i + d = l.length → d < k →
    hoodwinkref01_Join.l0 k (l.take i).flatten l (l.length : Int) (i : Int) = some l.flatten
  | 0, k, i, hi, hk => by
    obtain ⟨k, rfl⟩ : ∃ q, k = q + 1 := ⟨k - 1, by omega⟩
    simp only [hoodwinkref01_Join.l0]
    rw [if_neg (by omega), List.take_of_length_le (by omega)]
  | d + 1, k, i, hi, hk => by
    obtain ⟨k, rfl⟩ : ∃ q, k = q + 1 := ⟨k - 1, by omega⟩
    have hil : i < l.length := by omega
    have ih := join_l0 l hl hn d k (i + 1) (by omega) (by omega)
    have he : (l.take (i + 1)).flatten = (l.take i).flatten ++ l[i] := by rw [take_snoc hil, List.flatten_append]; simp
    have hle := flatten_take_le l (i + 1)
    rw [he, List.length_append] at hle
    simp only [hoodwinkref01_Join.l0]
    rw [if_pos (by omega), if_pos (by omega), if_pos (by omega), rdL_getElem hil, if_pos (by omega), next64 (by omega), ← he, ih]
theorem join_f (l : List (List Int)) (hl : l.flatten.length < 140737488355328) (hn : l.length ≤ 9223372036854775807) : hoodwinkref01_Join.f (l.length + 1) l = some l.flatten := by
  have := join_l0 l hl hn l.length (l.length + 1) 0 (by omega) (by omega)
  simpa [hoodwinkref01_Join.f] using this
theorem join_any (A : Option Addr) (n c : Nat) (l : List (List Int)) (w : World) (hr : (Kd.slice 5 (Kd.int .u8)).C w A n l) (hc : n ≤ c) (hl : l.flatten.length < 140737488355328) :
    Calls Tryd.prog 27 #[.slice A n c] w fun e w' => ∃ v, e = .returned v ∧ (Kd.int .u8).R 5 w' w.heap.size (fun _ => True) v l.flatten ∧ Below w.heap.size w w' := by
  have hm := hr.2.1
  obtain rfl := hr.1
  exact hoodwinkref01_Join.calls (l.length + 1) A c l _ w hr hc (join_f l hl hm)

end Go.Proofs.YthimlgkegobaeaaDoor
