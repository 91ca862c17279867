/- The walk of ClipNil. -/
import Derived.Test.YtmhninlndjcikaaK4
namespace Go.Proofs.Ytmhninlndjcikaa
open Go.RowKit Go.Proofs.YtmhninlndjcikaaW.PrintWords Go.Proofs.YtmhninlndjcikaaW.PrintLast Go.Proofs.YtmhninlndjcikaaW.PrintMore
set_option linter.unusedVariables false
set_option linter.unusedSimpArgs false
attribute [local go_sem] max2_int max_two

/-- What a size may be. -/
theorem want_cases (size : Int) : size < 0 ∨ 1024 < size ∨ (∃ d m : Nat, size = (64 * d : Nat) ∧ d ≤ 16 ∧ size.tdiv 64 = (d : Int) ∧ size.tmod 64 = 0 ∧ (if (1 : Int) < (d : Int) then (d : Int) else 1) = (m : Int) ∧ (if 1 < d then (d : Int) else 1) = (m : Int) ∧ countN (64 * d) = m) ∨
    (∃ d r m : Nat, size = (64 * d + r : Nat) ∧ 1 ≤ d ∧ d ≤ 15 ∧ 0 < r ∧ r < 64 ∧ size.tdiv 64 = (d : Int) ∧ size.tmod 64 = (r : Int) ∧ (if (1 : Int) < (d : Int) then (d : Int) else 1) = (m : Int) ∧ (if 1 < d then (d : Int) else 1) = (m : Int) ∧ m ≤ 16 ∧ countN (64 * d + r) = m + 1) ∨
    (∃ r : Nat, size = (r : Nat) ∧ 0 < r ∧ r < 64 ∧ size.tdiv 64 = 0 ∧ size.tmod 64 = (r : Int) ∧ countN r = 1) := by
  by_cases h1 : size < 0
  · exact .inl h1
  by_cases h2 : 1024 < size
  · exact .inr (.inl h2)
  obtain ⟨s, rfl⟩ := Int.eq_ofNat_of_zero_le (show 0 ≤ size by omega)
  have hs : s ≤ 1024 := by omega
  have e1 : (s : Int).tdiv 64 = ((s / 64 : Nat) : Int) := by rw [Int.tdiv_eq_ediv_of_nonneg (by omega)]; rfl
  have e2 : (s : Int).tmod 64 = ((s % 64 : Nat) : Int) := by rw [Int.tmod_eq_emod_of_nonneg (by omega)]; rfl
  by_cases h3 : s % 64 = 0
  · refine .inr (.inr (.inl ⟨s / 64, max (s / 64) 1, by omega, by omega, e1, by rw [e2, h3]; rfl, ?_, ?_, ?_⟩))
    · split <;> omega
    · split <;> omega
    · unfold countN; omega
  · by_cases h4 : s < 64
    · refine .inr (.inr (.inr (.inr ⟨s, rfl, by omega, h4, by rw [e1]; omega, by rw [e2]; omega, by unfold countN; omega⟩)))
    · refine .inr (.inr (.inr (.inl ⟨s / 64, s % 64, max (s / 64) 1, by omega, by omega, by omega, by omega, by omega, e1, e2, ?_, ?_, by omega, ?_⟩)))
      · split <;> omega
      · split <;> omega
      · unfold countN; omega

/-- A block of bytes, whatever stands in it. -/
def Some8 (w : World) (g n : Nat) : Prop := ∃ cs : Array Value, w.heap[g]? = some (.cells cs 5 (0, 0)) ∧ ∀ i, i < n → ∃ x, cs[i]? = some (.int .u8 x)
theorem Some8.below {w w' : World} {g n : Nat} (h : Some8 w g n) (hb : Below w.heap.size w w') : Some8 w' g n := by
  obtain ⟨cs, h1, h2⟩ := h
  exact ⟨cs, blk_below h1 hb, h2⟩
theorem Some8.cell {w : World} {g n : Nat} (h : Some8 w g n) {i : Nat} (hi : i < n) : ∃ x, w.cell? ⟨g, i, none⟩ = some (.int .u8 x) ∧ w.frozen? ⟨g, i, none⟩ = false := by
  obtain ⟨cs, h1, h2⟩ := h
  obtain ⟨x, hx⟩ := h2 i hi
  exact ⟨x, (blk_cell h1 i).trans hx, blk_frozen h1 i⟩
theorem Some8.set {w : World} {g n : Nat} (h : Some8 w g n) (i : Nat) (y : Int) : Some8 (w.setCell ⟨g, i, none⟩ (.int .u8 y)) g n := by
  obtain ⟨cs, h1, h2⟩ := h
  refine ⟨_, blk_set h1 i _, fun j hj => ?_⟩
  obtain ⟨x, hx⟩ := h2 j hj
  rw [Array.getElem?_setIfInBounds]
  by_cases e : i = j
  · subst e
    have : i < cs.size := (Array.getElem?_eq_some_iff.1 hx).1
    exact ⟨y, by rw [if_pos rfl, if_pos this]⟩
  · exact ⟨x, by rw [if_neg e]; exact hx⟩
/-- The block of a row of bytes that is one's own. -/
theorem own8 {w : World} {base n c : Nat} {ok : Nat → Prop} {Q : Option Addr} {q : List Int} (h : (Kd.int .u8).R 5 w base ok (.slice Q n c) q) (hn : 0 < n) : ∃ g, Q = some ⟨g, 0, none⟩ ∧ base ≤ g ∧ g < w.heap.size ∧ Some8 w g n := by
  obtain ⟨e1, e2, hC⟩ := R_C h
  obtain ⟨inner, ho⟩ := Kd.R_own h
  rcases ho.2 with ⟨hv, _⟩ | ⟨g, cap, cur, hv, hg, hh, r⟩
  · injection hv with _ h2 _; omega
  · injection hv with h1 _ _
    refine ⟨g, h1, hg, blk_lt hh, cur, hh, fun i hi => ?_⟩
    obtain ⟨ad, hA, hc⟩ := int_at hC i (by omega)
    rw [h1] at hA
    obtain rfl := Option.some.inj hA
    rw [add_plain, cell_of_row w g i cur _ _ hh] at hc
    exact ⟨_, hc⟩
end Go.Proofs.Ytmhninlndjcikaa
