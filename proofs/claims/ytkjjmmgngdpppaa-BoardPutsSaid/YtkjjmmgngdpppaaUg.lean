/- A row of cells of one's own: made, set, read. Cells that are alike; boards that are alike. -/
import Derived.Test.YtkjjmmgngdpppaaUf
import Derived.Laws.MakeOwn
import Derived.Laws.StructEq
namespace Go.Proofs.Ytkjjmmgngdpppaa
open Go.RowKit Go.Proofs.YtkjjmmgngdpppaaW.PrintWords Go.Proofs.YtkjjmmgngdpppaaW.PrintLast Go.Proofs.YtkjjmmgngdpppaaW.PrintMore
set_option linter.unusedVariables false
set_option linter.unusedSimpArgs false

theorem flatC_get : ∀ (L : List S25) (i : Nat) (h : i < L.length), (flatC L)[2 * i]? = some (.int .i32 L[i].f0) ∧ (flatC L)[2 * i + 1]? = some (.int .u32 L[i].f1)
  | [], i, h => by simp at h
  | c :: L, 0, h => ⟨rfl, rfl⟩
  | c :: L, i + 1, h => by
    have ih := flatC_get L i (by simpa using h)
    rw [show 2 * (i + 1) = 2 * i + 1 + 1 by omega]
    simp only [flatC, List.getElem?_cons_succ, List.getElem_cons_succ]
    exact ih
theorem flatC_set : ∀ (L : List S25) (i : Nat) (h : i < L.length) (a b : Int), ((flatC L).set (2 * i) (.int .i32 a)).set (2 * i + 1) (.int .u32 b) = flatC (L.set i ⟨a, b⟩)
  | [], i, h, a, b => by simp at h
  | c :: L, 0, h, a, b => rfl
  | c :: L, i + 1, h, a, b => by
    have ih := flatC_set L i (by simpa using h) a b
    rw [show 2 * (i + 1) = 2 * i + 1 + 1 by omega]
    simp only [flatC, List.set_cons_succ]
    rw [ih]
theorem flatC_setlo : ∀ (L : List S25) (i : Nat) (h : i < L.length) (a : Int), (flatC L).set (2 * i) (.int .i32 a) = flatC (L.set i ⟨a, L[i].f1⟩)
  | [], i, h, a => by simp at h
  | c :: L, 0, h, a => rfl
  | c :: L, i + 1, h, a => by
    have ih := flatC_setlo L i (by simpa using h) a
    rw [show 2 * (i + 1) = 2 * i + 1 + 1 by omega]
    simp only [flatC, List.set_cons_succ, List.getElem_cons_succ]
    rw [ih]
/-- A row of cells. -/
def Rc (w : World) (g : Nat) (L : List S25) : Prop := w.heap[g]? = some (.cells (flatC L).toArray 25 (0, 0))
theorem Rc.lo {w : World} {g : Nat} {L : List S25} (h : Rc w g L) {i : Nat} (hi : i < L.length) : w.cell? ⟨g, 2 * i, none⟩ = some (.int .i32 L[i].f0) := (blk_cell h (2 * i)).trans (by rw [List.getElem?_toArray]; exact (flatC_get L i hi).1)
theorem Rc.hi {w : World} {g : Nat} {L : List S25} (h : Rc w g L) {i : Nat} (hi : i < L.length) : w.cell? ⟨g, 2 * i + 1, none⟩ = some (.int .u32 L[i].f1) := (blk_cell h (2 * i + 1)).trans (by rw [List.getElem?_toArray]; exact (flatC_get L i hi).2)
theorem Rc.set {w : World} {g : Nat} {L : List S25} (h : Rc w g L) {i : Nat} (hi : i < L.length) (a b : Int) : Rc ((w.setCell ⟨g, 2 * i, none⟩ (.int .i32 a)).setCell ⟨g, 2 * i + 1, none⟩ (.int .u32 b)) g (L.set i ⟨a, b⟩) := by
  refine (blk_set (blk_set h (2 * i) _) (2 * i + 1) _).trans ?_
  rw [← flatC_set L i hi a b]
  congr 2
  apply Array.ext'
  simp
theorem Rc.setlo {w : World} {g : Nat} {L : List S25} (h : Rc w g L) {i : Nat} (hi : i < L.length) (a : Int) : Rc (w.setCell ⟨g, 2 * i, none⟩ (.int .i32 a)) g (L.set i ⟨a, L[i].f1⟩) := by
  refine (blk_set h (2 * i) _).trans ?_
  rw [← flatC_setlo L i hi a]
  congr 2
  apply Array.ext'
  simp
theorem Rc.reads {w : World} {g : Nat} {L : List S25} (h : Rc w g L) (hm : L.length ≤ 1000000) : k25.C w (some ⟨g, 0, none⟩) L.length L := by
  refine ⟨rfl, by omega, fun _ => ⟨_, rfl, fun j p hj => ?_⟩⟩
  obtain ⟨hjl, rfl⟩ := List.getElem?_eq_some_iff.1 hj
  refine ⟨[.int .i32 L[j].f0, .int .u32 L[j].f1], rfl, k25_mk w _, fun i u hu => ?_⟩
  show w.cell? ((⟨g, 0, none⟩ : Addr).add (j * 2 + i)) = _
  rw [add_plain, Nat.mul_comm]
  match i, hu with
  | 0, hu => exact (h.lo hjl).trans hu
  | 1, hu => exact (h.hi hjl).trans hu
  | i + 2, hu => simp at hu
theorem flatC_rep : ∀ (k : Nat) (j : Nat), j < k * 2 → (flatC (List.replicate k z25))[j]? = some (if j % 2 = 0 then .int .i32 0 else .int .u32 0)
  | 0, j, h => by omega
  | k + 1, 0, h => rfl
  | k + 1, 1, h => rfl
  | k + 1, j + 2, h => by
    have ih := flatC_rep k j (by omega)
    simp only [List.replicate_succ, flatC, List.getElem?_cons_succ]
    rw [ih, show (j + 2) % 2 = j % 2 by omega]
theorem flatC_len : ∀ L : List S25, (flatC L).length = L.length * 2
  | [] => rfl
  | c :: L => by simp only [flatC, List.length_cons, flatC_len L]; omega
theorem flatC_zero (k : Nat) : (madeCells (#[.int .i32 0, .int .u32 0] : Array Value) (k * 2)).toList = flatC (List.replicate k z25) := by
  apply List.ext_getElem?
  intro j
  by_cases h : j < k * 2
  · rw [flatC_rep k j h]
    rcases Nat.mod_two_eq_zero_or_one j with e | e
    · simp [madeCells, h, e]
    · simp [madeCells, h, e]
  · rw [List.getElem?_eq_none (show (madeCells (#[.int .i32 0, .int .u32 0] : Array Value) (k * 2)).toList.length ≤ j by simp [madeCells]; omega), List.getElem?_eq_none (show (flatC (List.replicate k z25)).length ≤ j by rw [flatC_len, List.length_replicate]; omega)]
theorem make_cells (k : Nat) (hk : k ≤ 1000) (w : World) : (Instr.makeSlice 27 (.int .i64 k) (.int .i64 k)).run Try.prog w = .ok (.slice (some ⟨w.heap.size, 0, none⟩) k k) (w.alloc (.cells (flatC (List.replicate k z25)).toArray 25)) := by
  obtain ⟨i, hi, hz, h1, h2⟩ : ∃ i, Try.prog.info? 25 = some i ∧ i.zero = some (.agg #[.int .i32 0, .int .u32 0]) ∧ i.size = 2 ∧ i.bytes = 8 := by
    have := cell_full
    cases h : Try.prog.info? 25 with
    | none => rw [h] at this; cases this
    | some i =>
      rw [h] at this
      simp at this
      exact ⟨i, rfl, this.1, this.2.1, this.2.2⟩
  have := run_makeSlice (P := Try.prog) w 27 25 i (.agg #[.int .i32 0, .int .u32 0]) Try.underlying27 hi hz .i64 .i64 (k : Int) (k : Int) (by omega) (by omega) (by rw [h1]; simp; omega) (by rw [h2]; omega) (by omega)
  rw [this]
  simp only [Int.toNat_natCast, h1]
  congr 4
  apply Array.ext'
  exact flatC_zero k
end Go.Proofs.Ytkjjmmgngdpppaa
