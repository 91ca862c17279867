/- What MaskTells compares. -/
import Derived.Test.YthafmgcflbdjpaaDoorMk
namespace Go.Proofs.YthafmgcflbdjpaaDoor
open Go.RowKit Go.Shelf Go.Proofs.YthafmgcflbdjpaaDoorW.PrintWords Go.Proofs.YthafmgcflbdjpaaDoorW.PrintLast Go.Proofs.YthafmgcflbdjpaaDoorW.PrintMore
set_option linter.unusedVariables false
set_option linter.unusedSimpArgs false

theorem obsI_length (a : Nat) : (obsI a).length = (obsF a).length := by unfold obsI; rw [List.length_map]
theorem obsI_range {a : Nat} {x : Int} (h : x ∈ obsI a) : 0 ≤ x ∧ x < 32 := by
  unfold obsI at h
  obtain ⟨y, _, rfl⟩ := List.mem_map.1 h
  have := y.isLt
  omega
theorem has_in (a : Nat) (o : Int) : hasN a o = decide (o ∈ obsI a) := by
  unfold hasN
  by_cases h : 0 ≤ o ∧ o < 32
  · have := mem_obsI a o.toNat (by omega)
    rw [show ((o.toNat : Nat) : Int) = o by omega] at this
    rw [this, decide_eq_true h, Bool.true_and]
  · rw [decide_eq_false h, Bool.false_and]
    symm; apply decide_eq_false
    exact fun hm => h (obsI_range hm)
theorem pop_len (a : Nat) : pop 32 a = (obsI a).length := by
  rw [obsI_length, ← List.length_map (f := Fin.val), obsF_val]; rfl
theorem told_most_any (m : Nat) (hm : m < 4294967296) (most : Nat) (hp : 0 < most) (w : World) (hT : Tabs w) :
    Calls Tryd.prog 17 #[.int .u32 m, .int .i64 most] w fun e W' => ∃ A c, e = .returned (.slice A ((obsI m).take most).length c) ∧ ((obsI m).take most).length ≤ c ∧ (Kd.int .i64).C W' A ((obsI m).take most).length ((obsI m).take most) ∧ Below w.heap.size w W' := by
  have h := told_any m hm most hp w hT.1 hT.2
  refine h.mono ?_
  rintro e W' ⟨v, rfl, ho, hb⟩
  have el : ((obsI m).take most).length = ((obsF m).take most).length := by unfold obsI; rw [← List.map_take, List.length_map]
  have hR : (Kd.int .i64).R 3 W' w.heap.size (fun _ => True) v ((obsI m).take most) := Kd.R_of_own (by
    rw [el]
    have e : encs (Value.int .i64) ((obsI m).take most) = ((obsF m).take most).map vF := (by unfold encs obsI; rw [← List.map_take, List.map_map]; rfl)
    rw [e]; exact ho) (fun _ _ => trivial)
  obtain ⟨A, c, rfl, hle, hC⟩ := Kd.R_reads hR
  exact ⟨A, c, rfl, hle, hC, hb⟩
end Go.Proofs.YthafmgcflbdjpaaDoor
