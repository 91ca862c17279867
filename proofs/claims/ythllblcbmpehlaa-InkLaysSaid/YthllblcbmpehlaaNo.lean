/- An argument that is a slice of fields, opened. -/
import Derived.Test.YthllblcbmpehlaaOp
import Derived.Test.YthllblcbmpehlaaNg
import Derived.Deep.Slices
import Derived.OpenShut
namespace Go.Proofs.Ythllblcbmpehlaa
open Go.RowKit Go.Deep Go.ChangeShapes Go.WideShapes Go.Proofs.YthllblcbmpehlaaW.PrintWords Go.Proofs.YthllblcbmpehlaaW.PrintLast Go.Proofs.YthllblcbmpehlaaW.PrintMore
set_option linter.unusedVariables false

theorem open_fields_C {H : Type} {enc : TypeId × Value → H} {P : Program} {w : World} {base : Nat} {held : Bool} {t e q : TypeId} {f0 f1 f2 f3 : Field} {a : Option Addr} {len cap : Nat} {d : DataW H} {ps : List MemPlace}
    (ht : P.underlying t = some (.slice e)) (he : P.underlying e = some (.struct #[f0, f1, f2, f3])) (ce : P.cellsOf e = 4) (o0 : f0.offset = 0) (o1 : f1.offset = 1) (o2 : f2.offset = 2) (o3 : f3.offset = 3)
    (c0 : P.cellsOf f0.type = 1) (c1 : P.cellsOf f1.type = 1) (c2 : P.cellsOf f2.type = 1) (c3 : P.cellsOf f3.type = 1) (u0 : P.underlying f0.type = some (.int .u8)) (u1 : P.underlying f1.type = some (.int .u64)) (u2 : P.underlying f2.type = some (.slice q)) (u3 : P.underlying f3.type = some (.int .u64)) (uq : P.underlying q = some (.int .u8)) (cq : P.cellsOf q = 1)
    (h : DataW.Trod enc P w base (fun _ => true) held t (.slice a len cap) d ps) :
    ∃ l : List S30, k30.C w a len l ∧ len ≤ cap ∧ ∀ x ∈ l, Fd x ∧ x.f2.length ≤ 9223372036854775807 := by
  obtain ⟨fuel, hf⟩ := h
  have hm : (maxLen : Nat) = 9223372036854775807 := rfl
  rcases open_slice ht hf with ⟨hcs, _⟩ | ⟨x, n, c, m, k, D, Pl, hcs, _, hl, hcm, hmm, _, hel⟩
  · simp [Value.cells] at hcs
    obtain ⟨rfl, rfl, rfl⟩ := hcs
    exact ⟨[], Kd.C_nil _ _, Nat.le_refl _, fun x hx => by cases hx⟩
  · simp [Value.cells] at hcs
    obtain ⟨rfl, rfl, rfl⟩ := hcs
    simp only [if_true] at hmm
    have each : ∀ i, i < m → ∃ y : Int × Int × (Option Addr × Nat × Nat × List Int) × Int, w.cell? (x.add (i * 4)) = some (.int .u8 y.1) ∧ w.cell? (x.add (i * 4 + 1)) = some (.int .u64 y.2.1) ∧ w.cell? (x.add (i * 4 + 2)) = some (.slice y.2.2.1.1 y.2.2.1.2.1 y.2.2.1.2.2.1) ∧ w.cell? (x.add (i * 4 + 3)) = some (.int .u64 y.2.2.2) ∧
        y.2.2.1.2.1 ≤ y.2.2.1.2.2.1 ∧ (Kd.int .u8).C w y.2.2.1.1 y.2.2.1.2.1 (y.2.2.1.2.2.2.take y.2.2.1.2.1) ∧ (y.2.2.1.2.2.2.take y.2.2.1.2.1).length = y.2.2.1.2.1 ∧ (0 ≤ y.1 ∧ y.1 < 256) ∧ (0 ≤ y.2.1 ∧ y.2.1 < 18446744073709551616) ∧ Bytes (y.2.2.1.2.2.2) ∧ (0 ≤ y.2.2.2 ∧ y.2.2.2 < 18446744073709551616) := by
      intro i hi
      obtain ⟨cs', h1, h2⟩ := hel i hi
      rw [ce] at h1
      obtain ⟨_, hlen, hcell⟩ := World.cells?_some h1
      obtain ⟨xs, k', _, _, _, hxl, hf'⟩ := DataW.trod_struct he h2
      match xs, hxl, cs', hlen with
      | [y0, y1, y2, y3], _, [v0, v1, v2, v3], _ =>
        have g0 := hf' 0 f0 rfl
        have g1 := hf' 1 f1 rfl
        have g2 := hf' 2 f2 rfl
        have g3 := hf' 3 f3 rfl
        simp [o0, o1, o2, o3, c0, c1, c2, c3] at g0 g1 g2 g3
        have e0 := hcell 0 (by omega)
        have e1 := hcell 1 (by omega)
        have e2 := hcell 2 (by omega)
        have e3 := hcell 3 (by omega)
        rw [Go.Deep.add_add] at e0 e1 e2 e3
        obtain ⟨b0, hb0, _, w0⟩ := DataW.trod_int u0 g0
        obtain ⟨b1, hb1, _, w1⟩ := DataW.trod_int u1 g1
        obtain ⟨b3, hb3, _, w3⟩ := DataW.trod_int u3 g3
        obtain rfl : v0 = .int .u8 b0 := by simpa using hb0
        obtain rfl : v1 = .int .u64 b1 := by simpa using hb1
        obtain rfl : v3 = .int .u64 b3 := by simpa using hb3
        have q0 := bounds_u8 w0
        have q1 := bounds_u64 w1
        have q3 := bounds_u64 w3
        rcases open_ints u2 uq cq g2 with ⟨hcs, _⟩ | ⟨a', len', cap', zs, hcs, hb', hl', hm', hz, _, hcl, hwz⟩
        · obtain rfl : v2 = .slice none 0 0 := by simpa using hcs
          exact ⟨(b0, b1, (none, 0, 0, []), b3), by simpa using e0, by simpa using e1, by simpa using e2, by simpa using e3, Nat.le_refl _, by simpa using Kd.C_nil _ _, rfl, by simp only; omega, by simp only; omega, (fun x hx => by cases hx), by simp only; omega⟩
        · obtain rfl : v2 = .slice (some a') len' cap' := by simpa using hcs
          simp only [if_true] at hz
          refine ⟨(b0, b1, (some a', len', cap', zs), b3), by simpa using e0, by simpa using e1, by simpa using e2, by simpa using e3, hl', C_of_ints (C := cap') hl' hm' hz (fun h => by cases h) (fun a'' ha c hc => ?_), by rw [List.length_take]; show min len' zs.length = len'; omega, by simp only; omega, by simp only; omega, (fun x hx => by have := bounds_u8 (hwz x hx); omega), by simp only; omega⟩
          cases ha
          exact hcl c (by rw [hz]; exact hc)
    obtain ⟨y, hy⟩ := choose_lt (α := Int × Int × (Option Addr × Nat × Nat × List Int) × Int) each
    have hlm : len ≤ m := by omega
    refine ⟨(List.range len).map (fun i => ⟨(y i).1, (y i).2.1, (y i).2.2.1.2.2.2.take (y i).2.2.1.2.1, (y i).2.2.2⟩), ⟨by simp, by omega, fun hn => ⟨x, rfl, fun j p hj => ?_⟩⟩, hl, fun p hp => ?_⟩
    · have hjl : j < len := by
        have := (List.getElem?_eq_some_iff.1 hj).1
        simpa using this
      rw [List.getElem?_map, List.getElem?_range hjl] at hj
      obtain rfl : (⟨(y j).1, (y j).2.1, (y j).2.2.1.2.2.2.take (y j).2.2.1.2.1, (y j).2.2.2⟩ : S30) = p := by simpa using hj
      obtain ⟨q0, q1, q2, q2', q3, q4, q5, _⟩ := hy j (by omega)
      refine ⟨[.int .u8 (y j).1, .int .u64 (y j).2.1, .slice (y j).2.2.1.1 (y j).2.2.1.2.1 (y j).2.2.1.2.2.1, .int .u64 (y j).2.2.2], rfl, ?_, fun i u hu => ?_⟩
      · have := k30_mk w (⟨(y j).1, (y j).2.1, (y j).2.2.1.2.2.2.take (y j).2.2.1.2.1, (y j).2.2.2⟩ : S30) (A2 := (y j).2.2.1.1) (c2 := (y j).2.2.1.2.2.1) (by simp only; rw [q5]; exact q3) (by simp only; rw [q5]; exact q4)
        simp only at this
        rw [q5] at this
        exact this
      · show w.cell? (x.add (j * 4 + i)) = _
        match i, hu with
        | 0, hu => obtain rfl : Value.int .u8 (y j).1 = u := by simpa using hu
                   exact q0
        | 1, hu => obtain rfl : Value.int .u64 (y j).2.1 = u := by simpa using hu
                   exact q1
        | 2, hu => obtain rfl : Value.slice (y j).2.2.1.1 (y j).2.2.1.2.1 (y j).2.2.1.2.2.1 = u := by simpa using hu
                   exact q2
        | 3, hu => obtain rfl : Value.int .u64 (y j).2.2.2 = u := by simpa using hu
                   exact q2'
        | i + 4, hu => simp at hu
    · obtain ⟨j, hj, rfl⟩ := List.mem_map.1 hp
      have hjl := List.mem_range.1 hj
      obtain ⟨_, _, _, _, q3, q4, q5, q6, q7, q8, q9⟩ := hy j (by omega)
      exact ⟨⟨q6, q7, q8.take _, q9⟩, by simp only; rw [q5]; exact q4.2.1⟩
end Go.Proofs.Ythllblcbmpehlaa
