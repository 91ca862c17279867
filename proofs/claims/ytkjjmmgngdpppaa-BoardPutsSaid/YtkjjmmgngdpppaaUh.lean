/- Cells that are alike; boards that are alike. -/
import Derived.Test.YtkjjmmgngdpppaaUg
import Derived.DeepKeys
namespace Go.Proofs.Ytkjjmmgngdpppaa
open Go.RowKit Go.Proofs.YtkjjmmgngdpppaaW.PrintWords Go.Proofs.YtkjjmmgngdpppaaW.PrintLast Go.Proofs.YtkjjmmgngdpppaaW.PrintMore
set_option linter.unusedVariables false
set_option linter.unusedSimpArgs false

theorem eqCell (d : Nat) (w : World) (x0 y0 : Int) (x1 y1 : Int) :
    (Op.equalIn (d + 2) 25 (.agg #[.int .i32 x0, .int .u32 x1]) (.agg #[.int .i32 y0, .int .u32 y1])).run Try.prog w = .ok (x0 == y0 && (x1 == y1)) w := by
  refine eqA_of Try.underlying25 (by kernel_rfl) ?_
  refine eqf_cons (by rfl) (by go_simp; rfl) (by go_simp; rfl) (by go_simp) ?_
  exact eqf_last (by rfl) (by go_simp; rfl) (by go_simp; rfl) (by go_simp)
theorem cell_eql (a b c d : Int) (w : World) : (binOp .eql 25 (.agg #[.int .i32 a, .int .u32 b]) (.agg #[.int .i32 c, .int .u32 d])).run Try.prog w = .ok (.bool (a == c && (b == d))) w := by
  rw [run_eql_struct, eqCell 9998]; rfl
theorem cell_neq (a b c d : Int) (w : World) : (binOp .neq 25 (.agg #[.int .i32 a, .int .u32 b]) (.agg #[.int .i32 c, .int .u32 d])).run Try.prog w = .ok (.bool (!(a == c && (b == d)))) w := by
  rw [run_neq_struct, eqCell 9998]; rfl
theorem cell_guard (op : BinOp) (x y : Operand) (xs ys : Array Value) (w : World) : (eqGuard op 25 x y (.agg xs) (.agg ys)).run Try.prog w = .ok () w := run_eqGuard_agg w op _ x y xs ys (by kernel_rfl)
theorem board_guard (op : BinOp) (x y : Operand) (xs ys : Array Value) (w : World) : (eqGuard op 30 x y (.agg xs) (.agg ys)).run Try.prog w = .ok () w := run_eqGuard_agg w op _ x y xs ys (by kernel_rfl)

/-- Are the first k cells of two boards the same? -/
def sameF (f h : Nat → S25) : Nat → Nat → Bool
  | i, 0 => true
  | i, k + 1 => ((f i).f0 == (h i).f0 && (f i).f1 == (h i).f1) && sameF f h (i + 1) k
def sameB (f h : Nat → S25) (n m : Int) : Bool := sameF f h 0 48 && n == m
theorem S25_eq {a b : S25} : (a.f0 == b.f0 && a.f1 == b.f1) = true ↔ a = b := by
  cases a; cases b; simp
theorem sameF_iff (f h : Nat → S25) : ∀ (k i : Nat), sameF f h i k = true ↔ ∀ j, i ≤ j → j < i + k → f j = h j
  | 0, i => by simp [sameF]; omega
  | k + 1, i => by
    rw [sameF, Bool.and_eq_true, S25_eq, sameF_iff f h k (i + 1)]
    constructor
    · rintro ⟨h1, h2⟩ j hj hk
      by_cases e : j = i
      · rw [e]; exact h1
      · exact h2 j (by omega) (by omega)
    · intro hh
      exact ⟨hh i (by omega) (by omega), fun j hj hk => hh j (by omega) (by omega)⟩
theorem sameB_iff (f h : Nat → S25) (n m : Int) : sameB f h n m = true ↔ (∀ j, j < 48 → f j = h j) ∧ n = m := by
  unfold sameB
  rw [Bool.and_eq_true, sameF_iff, beq_iff_eq]
  exact ⟨fun ⟨a, b⟩ => ⟨fun j hj => a j (by omega) (by omega), b⟩, fun ⟨a, b⟩ => ⟨fun j _ hj => a j (by omega), b⟩⟩
theorem extract2 {xs : Array Value} {o : Nat} {a b : Value} (ha : xs[o]? = some a) (hb : xs[o + 1]? = some b) : xs.extract o (o + 2) = #[a, b] := by
  apply Array.ext'
  rw [Array.toList_extract]
  have h1 : o < xs.size := (Array.getElem?_eq_some_iff.1 ha).1
  have h2 : o + 1 < xs.size := (Array.getElem?_eq_some_iff.1 hb).1
  apply List.ext_getElem?
  intro j
  match j with
  | 0 => simp [List.extract, ← Array.getElem?_toList] at ha ⊢; exact ha
  | 1 => simp [List.extract, ← Array.getElem?_toList] at hb ⊢; exact hb
  | j + 2 => simp [List.extract]; omega
theorem part_cell (w : World) (xs : Array Value) (o : Nat) (a b : Value) (ha : xs[o]? = some a) (hb : xs[o + 1]? = some b) : (part 25 xs o).run Try.prog w = .ok (.agg #[a, b]) w := by
  obtain ⟨i, hi, h1⟩ : ∃ i, Try.prog.info? 25 = some i ∧ i.size = 2 := by
    have := cell_info
    cases h : Try.prog.info? 25 with
    | none => rw [h] at this; cases this
    | some i => rw [h] at this; exact ⟨i, rfl, by simpa using this⟩
  have he := extract2 ha hb
  have h2 : Try.prog.cellsOf 25 = 2 := by kernel_rfl
  simp [part, isAgg, run_underlying Try.underlying25, run_sizeOf w hi, h2, he]
theorem eqItems_cells (w : World) (d : Nat) (f h : Nat → S25) (xs ys : Array Value) : ∀ (k i : Nat), (∀ j, i ≤ j → j < i + k → xs[2 * j]? = some (.int .i32 (f j).f0) ∧ xs[2 * j + 1]? = some (.int .u32 (f j).f1) ∧ ys[2 * j]? = some (.int .i32 (h j).f0) ∧ ys[2 * j + 1]? = some (.int .u32 (h j).f1)) →
    (Op.eqItems (d + 2) 25 2 xs ys (List.range' i k)).run Try.prog w = .ok (sameF f h i k) w
  | 0, i, hc => by simp [Op.eqItems, sameF]
  | k + 1, i, hc => by
    obtain ⟨c0, c1, c2, c3⟩ := hc i (by omega) (by omega)
    have ih := eqItems_cells w d f h xs ys k (i + 1) (fun j h1 h2 => hc j (by omega) (by omega))
    have p1 := part_cell w xs (i * 2) _ _ (by rw [Nat.mul_comm]; exact c0) (by rw [Nat.mul_comm]; exact c1)
    have p2 := part_cell w ys (i * 2) _ _ (by rw [Nat.mul_comm]; exact c2) (by rw [Nat.mul_comm]; exact c3)
    rw [List.range'_succ]
    simp only [Op.eqItems, Sem.run_bind, p1, p2, eqCell, Result.andThen_ok, sameF]
    cases hb : ((f i).f0 == (h i).f0 && (f i).f1 == (h i).f1)
    · simp
    · simp only [Bool.not_true, Bool.false_eq_true, if_false, Bool.true_and]
      exact ih
theorem board_fields : Try.prog.underlying 30 = some (.struct (Try.prog.fieldsOf 30)) := by kernel_rfl
end Go.Proofs.Ytkjjmmgngdpppaa
