/- clip.Split. -/
import Derived.Test.YtmhninlndjcikaaKb
namespace Go.Proofs.Ytmhninlndjcikaa
open Go.RowKit Go.Proofs.YtmhninlndjcikaaW.PrintWords Go.Proofs.YtmhninlndjcikaaW.PrintLast Go.Proofs.YtmhninlndjcikaaW.PrintMore
set_option linter.unusedVariables false
set_option linter.unusedSimpArgs false
attribute [local go_sem] min2_int min_two

def pieceN (p : List Int) (n i : Nat) : Pc := ⟨decide (i = 0), decide (i + 1 = n), (p.drop (64 * i)).take 64⟩
def pieces (p : List Int) : List Pc := (List.range (countN p.length)).map (pieceN p (countN p.length))
theorem pieces_length (p : List Int) : (pieces p).length = countN p.length := by simp [pieces]
theorem pieces_get (p : List Int) {i : Nat} (h : i < (pieces p).length) : (pieces p)[i] = pieceN p (countN p.length) i := by simp [pieces]
theorem infoP : (Try.prog.info? 31).map (fun i => (i.zero, i.size, i.bytes)) = some (some (.agg #[(.bool false), (.bool false), (.slice none 0 0)]), 3, 32) := by kernel_rfl
theorem countN_le {n : Nat} (h : n ≤ 1024) : countN n ≤ 16 := by unfold countN; omega
theorem countN_pos (n : Nat) : 0 < countN n := by unfold countN; omega

theorem split_facts {n m j : Nat} (hn : n ≤ 1024) (hm : countN n = m) (hlt : j < m) : ∃ lo mi b m1 : Nat, 64 * j = lo ∧ (j : Int) * 64 = (lo : Int) ∧ wrap64 (lo : Int) = (lo : Int) ∧ (lo : Int) + 64 = (mi : Int) ∧ wrap64 (mi : Int) = (mi : Int) ∧
    (m : Int) - 1 = (m1 : Int) ∧ wrap64 (m1 : Int) = (m1 : Int) ∧ ((j : Int) == (m1 : Int)) = decide (j + 1 = m) ∧ (j == m1) = decide (j + 1 = m) ∧ (if (n : Int) < (mi : Int) then (n : Int) else (mi : Int)) = (b : Int) ∧ (if n < mi then (n : Int) else (mi : Int)) = (b : Int) ∧
    ((j : Int) == 0) = decide (j = 0) ∧ (j == 0) = decide (j = 0) ∧ (lo ≤ b ∧ b ≤ n) ∧ min (b - lo) (n - lo) = min 64 (n - lo) ∧ b - lo ≤ 140737488351232 ∧ ((j : Int) == (m : Int) - 1) = decide (j + 1 = m) := by
  have hm16 := countN_le hn
  have h1 : 64 * j ≤ n := by
    have : m = max ((n + 63) / 64) 1 := hm.symm
    omega
  have hj : 64 * j ≤ 1024 := by omega
  have key : ∀ k : Nat, k ≤ 2000 → wrap64 (k : Int) = (k : Int) := fun k hk => w64 (by omega)
  refine ⟨64 * j, 64 * j + 64, min (64 * j + 64) n, m - 1, rfl, by omega, key _ (by omega), by omega, key _ (by omega), by omega, key _ (by omega), ?_, ?_, ?_, ?_, ?_, ?_, by omega, by omega, by omega, ?_⟩
  · rw [Bool.eq_iff_iff, beq_iff_eq, decide_eq_true_iff]; omega
  · rw [Bool.eq_iff_iff, beq_iff_eq, decide_eq_true_iff]; omega
  · split <;> omega
  · split <;> omega
  · rw [Bool.eq_iff_iff, beq_iff_eq, decide_eq_true_iff]; omega
  · rw [Bool.eq_iff_iff, beq_iff_eq, decide_eq_true_iff]
  · rw [Bool.eq_iff_iff, beq_iff_eq, decide_eq_true_iff]; omega

end Go.Proofs.Ytmhninlndjcikaa
