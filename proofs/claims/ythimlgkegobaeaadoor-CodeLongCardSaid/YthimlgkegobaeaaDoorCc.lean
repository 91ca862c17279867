/- code.uses: what each operation uses. -/
import Derived.Test.YthimlgkegobaeaaDoorCb
import Derived.Test.YthimlgkegobaeaaDoorHp
namespace Go.Proofs.YthimlgkegobaeaaDoor
open Go.RowKit Go.Shelf Go.Proofs.YthimlgkegobaeaaDoorW.PrintWords Go.Proofs.YthimlgkegobaeaaDoorW.PrintLast Go.Proofs.YthimlgkegobaeaaDoorW.PrintMore
set_option linter.unusedVariables false
set_option linter.unusedSimpArgs false

/-- What an operation uses: registers A, B, C; what N is; a mask. -/
structure Use where
  a : Bool
  b : Bool
  c : Bool
  n : Nat
  m : Bool
def useZ : Use := ⟨false, false, false, 0, false⟩
def useT : List Use := [useZ, ⟨true, false, false, 1, false⟩, ⟨true, false, false, 2, false⟩, ⟨true, false, false, 2, false⟩, ⟨true, true, false, 2, false⟩, ⟨true, true, false, 2, false⟩,
  ⟨true, true, true, 0, false⟩, ⟨true, true, true, 0, false⟩, ⟨true, true, true, 0, false⟩, ⟨true, true, true, 0, false⟩, ⟨true, true, true, 0, false⟩, ⟨true, true, true, 0, false⟩,
  ⟨true, true, true, 0, false⟩, ⟨true, true, true, 0, false⟩, ⟨true, true, true, 0, false⟩, ⟨true, true, true, 0, false⟩, ⟨true, true, true, 0, false⟩, ⟨true, true, true, 0, false⟩,
  ⟨true, true, true, 0, false⟩, ⟨true, false, false, 3, false⟩, ⟨false, false, false, 3, false⟩, ⟨true, false, false, 4, false⟩, ⟨false, true, false, 2, true⟩, ⟨true, false, false, 5, false⟩,
  ⟨false, false, false, 6, false⟩, ⟨true, false, false, 0, false⟩]
def useO (op : Nat) : Use := useT.getD op useZ
def useCells (x : Use) : List Value := [.bool x.a, .bool x.b, .bool x.c, .int .u8 (x.n : Int), .bool x.m]
/-- The table, its rows from 6 up to k laid by the loop. -/
def usesK (k : Nat) : Array Value := ((List.range 26).flatMap fun op => useCells (if 6 ≤ op ∧ k ≤ op ∧ op < 18 then useZ else useO op)).toArray
theorem usesK_size (k : Nat) : (usesK k).size = 130 := by
  unfold usesK
  simp [useCells, List.length_flatMap]
  decide
theorem usesK_one (k : Nat) : (usesK k).all (·.oneCell') = true := by
  unfold usesK
  rw [← Array.all_toList]
  simp only [List.all_flatMap, List.all_eq_true]
  intro op _ v hv
  simp only [useCells, List.mem_cons, List.not_mem_nil, or_false] at hv
  rcases hv with rfl | rfl | rfl | rfl | rfl <;> rfl
theorem uses_info (k : Nat) : (Tryd.prog.info? 79).map (·.size) = some (usesK k).size := by
  rw [usesK_size]; kernel_rfl
set_option maxRecDepth 100000 in
theorem usesK_set : ∀ k, 6 ≤ k → k < 18 → (((((usesK k).setIfInBounds (k * 5) (.bool true)).setIfInBounds (k * 5 + 1) (.bool true)).setIfInBounds (k * 5 + 2) (.bool true)).setIfInBounds (k * 5 + 3) (.int .u8 0)).setIfInBounds (k * 5 + 4) (.bool false) = usesK (k + 1) := by
  intro k h6 h18
  have key : ∀ k : Fin 12, (((((usesK (k.val + 6)).setIfInBounds ((k.val + 6) * 5) (.bool true)).setIfInBounds ((k.val + 6) * 5 + 1) (.bool true)).setIfInBounds ((k.val + 6) * 5 + 2) (.bool true)).setIfInBounds ((k.val + 6) * 5 + 3) (.int .u8 0)).setIfInBounds ((k.val + 6) * 5 + 4) (.bool false) = usesK (k.val + 6 + 1) := by
    intro k
    match k with
    | 0 => rfl
    | 1 => rfl
    | 2 => rfl
    | 3 => rfl
    | 4 => rfl
    | 5 => rfl
    | 6 => rfl
    | 7 => rfl
    | 8 => rfl
    | 9 => rfl
    | 10 => rfl
    | 11 => rfl
  have := key ⟨k - 6, by omega⟩
  rw [show k - 6 + 6 = k by omega] at this
  exact this
theorem set_self (a : Array Value) (s : Nat) : a.setIfInBounds s (a.getD s undef) = a := by
  apply Array.ext
  · simp
  · intro i h1 h2
    rw [Array.getElem_setIfInBounds (by simpa using h2)]
    by_cases e : s = i
    · subst e; simp [h2]
    · rw [if_neg e]
/-- What a slot holds is forgotten. -/
theorem wpList_forget {P : Program} {ops rest : _} {a : Act} {Q : Exit → Act → World → Prop} {w : World} (s : Nat) (h : ∀ q, wpList P ops Q rest { a with tmps := a.tmps.setIfInBounds s q } w) : wpList P ops Q rest a w := by
  have := h (a.tmps.getD s undef)
  rw [set_self] at this
  exact this
attribute [local irreducible] usesK
set_option maxHeartbeats 8000000 in
set_option maxRecDepth 100000 in
theorem uses_any (w0 : World) :
    Calls Tryd.prog 38 #[] w0 fun e w' => e = .returned (.agg (usesK 18)) ∧ Below w0.heap.size w0 w' := by
  have HP := Aside0.mk (((Hp.start w0).alloc (.cells Tryd.zeroCells79 79)).allocAt (.cells Tryd.zeroCells79 79) (w0.heap.size + 1) (by simp))
  have HI := fun k => Aside0.mk (uses_info k)
  have HO := fun k => Aside0.mk (usesK_one k)
  go_enter Tryd.func38, Tryd.ntmps38
  go_wp2_with (first | (refine wpList_store_row rfl 79 (.tmp 1) (.tmp 16) rfl (w0.heap.size + 1) (usesK 6) rfl (by kernel_rfl) 79 _ (HP.out.get (i := 0) rfl) (HI _).out (by rw [usesK_size]; kernel_rfl) (HO _).out ?_; replace HP := Aside0.mk (HP.out.setRow (i := 0) rfl (usesK 6)); refine wpList_forget 16 ?_; intro q16))
  go_loopw [2] (fun v2 wr => ∃ k : Nat, 6 ≤ k ∧ k ≤ 18 ∧ v2 = .int .i64 (k : Int) ∧ Aside0 (Hp w0.heap.size w0 wr [(w0.heap.size + 1, .cells (usesK k) 79 (0, 0)), (w0.heap.size, .cells Tryd.zeroCells79 79 (0, 0))] [])) (fun v2 _ => (18 - intV v2).toNat)
  case atStart => exact ⟨6, by omega, by omega, rfl, HP⟩
  case round =>
    obtain ⟨k, hk6, hk, rfl, HK⟩ := hrel
    by_cases h : k < 18
    · have hs := usesK_set k hk6 h
      have HS := Aside0.mk hs
      clear hs
      have HK2 := Aside0.mk ((((((HK.out.setCell (i := 0) rfl (k * 5) (.bool true)).setCell (i := 0) rfl (k * 5 + 1) (.bool true)).setCell (i := 0) rfl (k * 5 + 2) (.bool true)).setCell (i := 0) rfl (k * 5 + 3) (.int .u8 0)).setCell (i := 0) rfl (k * 5 + 4) (.bool false)).alt (i := 0) (o' := .cells (usesK (k + 1)) 79 (0, 0)) rfl (by rw [HS.out]))
      have hkw : k ≤ 17 := by omega
      have hc : ∀ j, j < 130 → ∃ v, wr.cell? ⟨w0.heap.size + 1, j, none⟩ = some v := by
        intro j hj
        rw [cell_of_row _ _ _ _ _ _ (HK.out.get (i := 0) rfl)]
        exact ⟨_, Array.getElem?_eq_getElem (by rw [usesK_size]; exact hj)⟩
      obtain ⟨v0, c0⟩ := hc (k * 5) (by omega)
      obtain ⟨v1, c1⟩ := hc (k * 5 + 1) (by omega)
      obtain ⟨v2, c2⟩ := hc (k * 5 + 2) (by omega)
      obtain ⟨v3, c3⟩ := hc (k * 5 + 3) (by omega)
      obtain ⟨v4, c4⟩ := hc (k * 5 + 4) (by omega)
      have f0 := blk_frozen (HK.out.get (i := 0) rfl) (k * 5)
      have f1 := blk_frozen (HK.out.get (i := 0) rfl) (k * 5 + 1)
      have f2 := blk_frozen (HK.out.get (i := 0) rfl) (k * 5 + 2)
      have f3 := blk_frozen (HK.out.get (i := 0) rfl) (k * 5 + 3)
      have f4 := blk_frozen (HK.out.get (i := 0) rfl) (k * 5 + 4)
      clear hc
      go_wp2_with fail
      exact ⟨⟨k + 1, by omega, by omega, by congr 1, HK2⟩, by simp only [intV]; omega⟩
    · obtain rfl : k = 18 := by omega
      go_wp2_with (first | (refine wpList_load_row rfl 79 (.tmp 1) rfl (w0.heap.size + 1) rfl 79 _ (0, 0) _ (HK.out.get (i := 0) rfl) Tryd.underlying79 rfl (HI _).out ?_) | (refine wpList_store_row rfl 79 (.tmp 0) (.tmp 24) rfl w0.heap.size (usesK 18) rfl rfl 79 _ (HK.out.get (i := 1) rfl) (HI _).out (by rw [usesK_size]; kernel_rfl) (HO _).out ?_))
      have HP3 := Aside0.mk (HK.out.setRow (i := 1) rfl (usesK 18))
      refine bodyPost_ret (results_cell_row rfl _ _ w0.heap.size _ (usesK 18) (0, 0) _ rfl (HP3.out.get (i := 1) rfl) Tryd.underlying79 rfl (HI _).out) rfl ?_
      exact ⟨rfl, HP3.out.bel⟩
end Go.Proofs.YthimlgkegobaeaaDoor
