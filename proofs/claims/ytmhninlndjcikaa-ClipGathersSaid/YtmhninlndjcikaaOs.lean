/- An argument that is a slice of truth values, opened. -/
import Derived.Test.YtmhninlndjcikaaA
import Derived.Deep.Grids
namespace Go.Proofs.Ytmhninlndjcikaa
open Go.RowKit Go.Deep Go.ChangeShapes Go.WideShapes Go.Proofs.YtmhninlndjcikaaW.PrintWords Go.Proofs.YtmhninlndjcikaaW.PrintLast Go.Proofs.YtmhninlndjcikaaW.PrintMore
set_option linter.unusedVariables false

theorem open_bools_C {H : Type} {enc : TypeId × Value → H} {P : Program} {w : World} {base : Nat} {held : Bool} {t e : TypeId} {a : Option Addr} {len cap : Nat} {d : DataW H} {ps : List MemPlace}
    (ht : P.underlying t = some (.slice e)) (he : P.underlying e = some .bool) (ce : P.cellsOf e = 1) (h : DataW.Trod enc P w base (fun _ => true) held t (.slice a len cap) d ps) :
    ∃ l : List Bool, Kd.bool.C w a len l ∧ len ≤ cap := by
  obtain ⟨fuel, hf⟩ := h
  have hm : (maxLen : Nat) = 9223372036854775807 := rfl
  rcases open_bools ht he ce hf with ⟨hcs, _⟩ | ⟨x, n, c, B, hcs, _, hl, hcm, _, hel⟩
  · simp [Value.cells] at hcs
    obtain ⟨rfl, rfl, rfl⟩ := hcs
    exact ⟨[], Kd.C_nil _ _, Nat.le_refl _⟩
  · simp [Value.cells] at hcs
    obtain ⟨rfl, rfl, rfl⟩ := hcs
    refine ⟨(List.range len).map B, ⟨by simp, by omega, fun hn => ⟨x, rfl, fun j p hj => ?_⟩⟩, hl⟩
    have hjl : j < len := by
      have := (List.getElem?_eq_some_iff.1 hj).1
      simpa using this
    rw [List.getElem?_map, List.getElem?_range hjl] at hj
    obtain rfl : B j = p := by simpa using hj
    refine ⟨[.bool (B j)], rfl, rfl, fun i u hu => ?_⟩
    have hi0 : i = 0 := by
      have := (List.getElem?_eq_some_iff.1 hu).1
      simp at this; exact this
    subst hi0
    obtain rfl : Value.bool (B j) = u := by simpa using hu
    show w.cell? (x.add (j * 1 + 0)) = _
    rw [Nat.mul_one, Nat.add_zero]; exact hel j (by omega)
end Go.Proofs.Ytmhninlndjcikaa
