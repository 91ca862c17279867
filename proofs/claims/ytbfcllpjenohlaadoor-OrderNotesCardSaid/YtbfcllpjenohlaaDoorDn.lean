/- The walk of OrderNotes: what it needs of its regions. -/
import Derived.Test.YtbfcllpjenohlaaDoorDk
import Derived.Test.YtbfcllpjenohlaaDoorDm
import Derived.Test.YtbfcllpjenohlaaDoorO
import Derived.LoopTactic
import Derived.Deep.MidRow
namespace Go.Proofs.YtbfcllpjenohlaaDoor
open Go.RowKit Go.Proofs.YtbfcllpjenohlaaDoorW.PrintWords Go.Proofs.YtbfcllpjenohlaaDoorW.PrintLast Go.Proofs.YtbfcllpjenohlaaDoorW.PrintMore
set_option linter.unusedVariables false
set_option linter.unusedSimpArgs false

theorem pop_succ (n b : Nat) : pop (n + 1) b = pop n b + (if b.testBit n then 1 else 0) := by
  unfold pop
  rw [List.range_succ, List.filter_append, List.length_append]
  cases h : b.testBit n <;> simp [List.filter, h]
/-- A whole struct stored into its block. -/
theorem runs_store {P : Program} {o : Oper} {ρ : Operand → Value} {w : World} {R : Value → World → Prop} (ty : TypeId) (x y : Operand) (ho : o.op = .store ty x y)
    (g : Nat) (cells : Array Value) (hx : ρ x = .pointer (some ⟨g, 0, none⟩)) (hy : ρ y = .agg cells)
    (t : TypeId) (old : Array Value) (hg : w.heap[g]? = some (.cells old t (0, 0))) (hi : (P.info? ty).map (·.size) = some cells.size)
    (hold : old.size = cells.size) (h1 : cells.all (·.oneCell') = true) (hR : R undef (w.setRow g cells)) : runs P o ρ w R := by
  unfold runs execOp
  simp only [ho, hx, hy, Instr.storeAt, Instr.sureAddr, Sem.run_bind, Sem.run_pure, Result.andThen_ok, run_storeVar_row w g t ty old cells hg hi hold h1]
  exact hR
theorem two_info : (Tryd.prog.info? 35).map (·.size) = some 2 := by kernel_rfl

theorem index_bool (w : World) (cs : Array Value) (i : Nat) (hi : i < 32) (v : Bool) (hv : cs[i]? = some (.bool v)) : (Instr.index 42 (.agg cs) (.int .i64 i)).run Tryd.prog w = .ok (.bool v) w := by
  have h1 : ∀ w, (sizeOf 4).run Tryd.prog w = .ok 1 w := fun w => by kernel_rfl
  have h2 : ∀ w, (isAgg 4).run Tryd.prog w = .ok false w := fun w => by kernel_rfl
  have h3 : (i : Int) < 32 := by omega
  simp [Instr.index, run_underlying Tryd.underlying42, asIntOf, part, h1, h2, h3, hv, go_sem]
  intro h; omega
end Go.Proofs.YtbfcllpjenohlaaDoor
