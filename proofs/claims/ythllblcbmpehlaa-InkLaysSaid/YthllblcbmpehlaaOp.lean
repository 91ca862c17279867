/- Arguments with depth, opened: a slice of slices of whole numbers as a list of lists. -/
import Derived.Test.YthllblcbmpehlaaA
import Derived.Deep.Matrix
import Derived.ProofKit
namespace Go.Proofs.Ythllblcbmpehlaa
open Go.RowKit Go.Deep Go.Proofs.YthllblcbmpehlaaW.PrintWords Go.Proofs.YthllblcbmpehlaaW.PrintLast Go.Proofs.YthllblcbmpehlaaW.PrintMore
set_option linter.unusedVariables false
theorem C_of_ints {k : IntKind} {w : World} {A : Option Addr} {L C : Nat} {Z : List Int} (hl : L ≤ C) (hC : C ≤ maxLen) (hz : Z.length = C) (h0 : A = none → C = 0) (hc : ∀ a', A = some a' → ∀ c, c < C → w.cell? (a'.add c) = some (.int k (Z.getD c 0))) :
    (Kd.int k).C w A L (Z.take L) := by
  have hm : (maxLen : Nat) = 9223372036854775807 := rfl
  refine ⟨by rw [List.length_take]; omega, by omega, fun hn => ?_⟩
  cases A with
  | none => have := h0 rfl; omega
  | some a' =>
    refine ⟨a', rfl, fun j p hj => ⟨[.int k p], rfl, rfl, fun i u hu => ?_⟩⟩
    have hjl : j < (Z.take L).length := (List.getElem?_eq_some_iff.1 hj).1
    rw [List.length_take] at hjl
    have hi0 : i = 0 := by
      have := (List.getElem?_eq_some_iff.1 hu).1
      simp at this; exact this
    subst hi0
    obtain rfl : Value.int k p = u := by simpa using hu
    have hp : Z.getD j 0 = p := by
      rw [List.getElem?_take, if_pos (by omega)] at hj
      rw [List.getD_eq_getElem?_getD, hj]; rfl
    rw [← hp]
    have := hc a' rfl j (by omega)
    show w.cell? (a'.add (j * 1 + 0)) = _
    rw [Nat.mul_one, Nat.add_zero]; exact this
theorem open_rows_C {H : Type} {enc : TypeId × Value → H} {P : Program} {w : World} {base : Nat} {held : Bool} {t e q : TypeId} {k : IntKind} {a : Option Addr} {len cap : Nat} {d : DataW H} {ps : List MemPlace}
    (ht : P.underlying t = some (.slice e)) (he : P.underlying e = some (.slice q)) (hq : P.underlying q = some (.int k)) (ce : P.cellsOf e = 1) (cq : P.cellsOf q = 1)
    (h : DataW.Trod enc P w base (fun _ => true) held t (.slice a len cap) d ps) :
    ∃ l : List (List Int), (Kd.slice q (Kd.int k)).C w a len l ∧ len ≤ cap ∧ ∀ p ∈ l, ∀ x ∈ p, (Lit.int k x).wf = true := by
  obtain ⟨fuel, hf⟩ := h
  have hm : (maxLen : Nat) = 9223372036854775807 := rfl
  rcases open_int_rows ht he hq ce cq hf with ⟨hcs, _⟩ | ⟨x, n, c, A, L, C, Z, hcs, _, hl, hcm, _, hr⟩
  · simp [Value.cells] at hcs
    obtain ⟨rfl, rfl, rfl⟩ := hcs
    exact ⟨[], Kd.C_nil _ _, Nat.le_refl _, fun p hp => by cases hp⟩
  · simp [Value.cells] at hcs
    obtain ⟨rfl, rfl, rfl⟩ := hcs
    refine ⟨(List.range len).map (fun r => (Z r).take (L r)), ⟨by simp, by omega, fun hn => ⟨x, rfl, fun j p hj => ?_⟩⟩, hl, fun p hp y hy => ?_⟩
    · have hjl : j < len := by
        have := (List.getElem?_eq_some_iff.1 hj).1
        simpa using this
      rw [List.getElem?_map, List.getElem?_range hjl] at hj
      obtain rfl : (Z j).take (L j) = p := by simpa using hj
      obtain ⟨hc, h1, h2, h3, h4, h5, h6⟩ := hr j (by omega)
      have hlen : ((Z j).take (L j)).length = L j := by rw [List.length_take]; omega
      have hC := C_of_ints (k := k) (w := w) h1 h2 h3 h5 (fun a' ha c hcc => (h6 a' ha).2 c hcc)
      refine ⟨[.slice (A j) (L j) (C j)], rfl, ⟨A j, C j, by rw [hlen], by rw [hlen]; exact h1, by rw [hlen]; exact hC⟩, fun i u hu => ?_⟩
      have hi0 : i = 0 := by
        have := (List.getElem?_eq_some_iff.1 hu).1
        simp at this; exact this
      subst hi0
      obtain rfl : Value.slice (A j) (L j) (C j) = u := by simpa using hu
      show w.cell? (x.add (j * 1 + 0)) = _
      rw [Nat.mul_one, Nat.add_zero]; exact hc
    · obtain ⟨r, hr', rfl⟩ := List.mem_map.1 hp
      obtain ⟨_, _, _, _, h4, _, _⟩ := hr r (by have := List.mem_range.1 hr'; omega)
      exact h4 y (List.mem_of_mem_take hy)
end Go.Proofs.Ythllblcbmpehlaa
