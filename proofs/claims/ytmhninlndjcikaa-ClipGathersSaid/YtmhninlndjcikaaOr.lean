/- An argument that is a slice of pieces, opened. -/
import Derived.Test.YtmhninlndjcikaaOp
import Derived.Test.YtmhninlndjcikaaKa
import Derived.Deep.Slices
namespace Go.Proofs.Ytmhninlndjcikaa
open Go.RowKit Go.Deep Go.ChangeShapes Go.WideShapes Go.Proofs.YtmhninlndjcikaaW.PrintWords Go.Proofs.YtmhninlndjcikaaW.PrintLast Go.Proofs.YtmhninlndjcikaaW.PrintMore
set_option linter.unusedVariables false

theorem open_pieces_C {H : Type} {enc : TypeId × Value → H} {P : Program} {w : World} {base : Nat} {held : Bool} {t e q : TypeId} {f0 f1 f2 : Field} {a : Option Addr} {len cap : Nat} {d : DataW H} {ps : List MemPlace}
    (ht : P.underlying t = some (.slice e)) (he : P.underlying e = some (.struct #[f0, f1, f2])) (ce : P.cellsOf e = 3) (o0 : f0.offset = 0) (o1 : f1.offset = 1) (o2 : f2.offset = 2)
    (c0 : P.cellsOf f0.type = 1) (c1 : P.cellsOf f1.type = 1) (c2 : P.cellsOf f2.type = 1) (u0 : P.underlying f0.type = some .bool) (u1 : P.underlying f1.type = some .bool) (u2 : P.underlying f2.type = some (.slice q)) (uq : P.underlying q = some (.int .u8)) (cq : P.cellsOf q = 1)
    (h : DataW.Trod enc P w base (fun _ => true) held t (.slice a len cap) d ps) :
    ∃ l : List Pc, kP.C w a len l ∧ len ≤ cap := by
  obtain ⟨fuel, hf⟩ := h
  have hm : (maxLen : Nat) = 9223372036854775807 := rfl
  rcases open_slice ht hf with ⟨hcs, _⟩ | ⟨x, n, c, m, k, D, Pl, hcs, _, hl, hcm, hmm, _, hel⟩
  · simp [Value.cells] at hcs
    obtain ⟨rfl, rfl, rfl⟩ := hcs
    exact ⟨[], Kd.C_nil _ _, Nat.le_refl _⟩
  · simp [Value.cells] at hcs
    obtain ⟨rfl, rfl, rfl⟩ := hcs
    simp only [if_true] at hmm
    have each : ∀ i, i < m → ∃ y : Bool × Bool × Option Addr × Nat × Nat × List Int, w.cell? (x.add (i * 3)) = some (.bool y.1) ∧ w.cell? (x.add (i * 3 + 1)) = some (.bool y.2.1) ∧ w.cell? (x.add (i * 3 + 2)) = some (.slice y.2.2.1 y.2.2.2.1 y.2.2.2.2.1) ∧
        y.2.2.2.1 ≤ y.2.2.2.2.1 ∧ (Kd.int .u8).C w y.2.2.1 y.2.2.2.1 (y.2.2.2.2.2.take y.2.2.2.1) ∧ (y.2.2.2.2.2.take y.2.2.2.1).length = y.2.2.2.1 := by
      intro i hi
      obtain ⟨cs', h1, h2⟩ := hel i hi
      rw [ce] at h1
      obtain ⟨_, hlen, hcell⟩ := World.cells?_some h1
      obtain ⟨xs, k', _, _, _, hxl, hf'⟩ := DataW.trod_struct he h2
      match xs, hxl, cs', hlen with
      | [y0, y1, y2], _, [v0, v1, v2], _ =>
        have g0 := hf' 0 f0 rfl
        have g1 := hf' 1 f1 rfl
        have g2 := hf' 2 f2 rfl
        simp [o0, o1, o2, c0, c1, c2] at g0 g1 g2
        have e0 := hcell 0 (by omega)
        have e1 := hcell 1 (by omega)
        have e2 := hcell 2 (by omega)
        rw [Go.Deep.add_add] at e0 e1 e2
        obtain ⟨b0, hb0, _⟩ := DataW.trod_bool u0 g0
        obtain ⟨b1, hb1, _⟩ := DataW.trod_bool u1 g1
        obtain rfl : v0 = .bool b0 := by simpa using hb0
        obtain rfl : v1 = .bool b1 := by simpa using hb1
        rcases open_ints u2 uq cq g2 with ⟨hcs, _⟩ | ⟨a', len', cap', zs, hcs, hb', hl', hm', hz, _, hcl, _⟩
        · obtain rfl : v2 = .slice none 0 0 := by simpa using hcs
          exact ⟨(b0, b1, none, 0, 0, []), by simpa using e0, by simpa using e1, by simpa using e2, Nat.le_refl _, by simpa using Kd.C_nil _ _, rfl⟩
        · obtain rfl : v2 = .slice (some a') len' cap' := by simpa using hcs
          simp only [if_true] at hz
          refine ⟨(b0, b1, some a', len', cap', zs), by simpa using e0, by simpa using e1, by simpa using e2, hl', C_of_ints (C := cap') hl' hm' hz (fun h => by cases h) (fun a'' ha c hc => ?_), by rw [List.length_take]; show min len' zs.length = len'; omega⟩
          cases ha
          exact hcl c (by rw [hz]; exact hc)
    obtain ⟨y, hy⟩ := choose_lt (α := Bool × Bool × Option Addr × Nat × Nat × List Int) each
    have hlm : len ≤ m := by omega
    refine ⟨(List.range len).map (fun i => ⟨(y i).1, (y i).2.1, (y i).2.2.2.2.2.take (y i).2.2.2.1⟩), ⟨by simp, by omega, fun hn => ⟨x, rfl, fun j p hj => ?_⟩⟩, hl⟩
    have hjl : j < len := by
      have := (List.getElem?_eq_some_iff.1 hj).1
      simpa using this
    rw [List.getElem?_map, List.getElem?_range hjl] at hj
    obtain rfl : (⟨(y j).1, (y j).2.1, (y j).2.2.2.2.2.take (y j).2.2.2.1⟩ : Pc) = p := by simpa using hj
    obtain ⟨q0, q1, q2, q3, q4, q5⟩ := hy j (by omega)
    refine ⟨[.bool (y j).1, .bool (y j).2.1, .slice (y j).2.2.1 (y j).2.2.2.1 (y j).2.2.2.2.1], rfl, ⟨[.bool (y j).1], [.bool (y j).2.1, .slice (y j).2.2.1 (y j).2.2.2.1 (y j).2.2.2.2.1], rfl, rfl, ⟨[.bool (y j).2.1], [.slice (y j).2.2.1 (y j).2.2.2.1 (y j).2.2.2.2.1], rfl, rfl, ⟨(y j).2.2.1, (y j).2.2.2.2.1, by simp only; rw [q5], by simp only; rw [q5]; exact q3, by simp only; rw [q5]; exact q4⟩⟩⟩, fun i u hu => ?_⟩
    show w.cell? (x.add (j * 3 + i)) = _
    match i, hu with
    | 0, hu => obtain rfl : Value.bool (y j).1 = u := by simpa using hu
               exact q0
    | 1, hu => obtain rfl : Value.bool (y j).2.1 = u := by simpa using hu
               exact q1
    | 2, hu => obtain rfl : Value.slice (y j).2.2.1 (y j).2.2.2.1 (y j).2.2.2.2.1 = u := by simpa using hu
               exact q2
    | i + 3, hu => simp at hu
end Go.Proofs.Ytmhninlndjcikaa
