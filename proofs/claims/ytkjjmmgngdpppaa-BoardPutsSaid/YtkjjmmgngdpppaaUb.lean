/- board.New, Len, there. -/
import Derived.Test.YtkjjmmgngdpppaaUa
import Derived.LoopTactic
namespace Go.Proofs.Ytkjjmmgngdpppaa
open Go.RowKit Go.Proofs.YtkjjmmgngdpppaaW.PrintWords Go.Proofs.YtkjjmmgngdpppaaW.PrintLast Go.Proofs.YtkjjmmgngdpppaaW.PrintMore
set_option linter.unusedVariables false
set_option linter.unusedSimpArgs false

theorem run_copy_zero {P : Program} (s : Nat) (w : World) (dT sT ty elem : TypeId) (d a : Option Addr) (dLen dCap sLen sCap : Nat) (hu : P.underlying dT = some (.slice elem)) (hs : (P.info? elem).map (·.size) = some s) (hn : Nat.min sLen dLen = 0) :
    (Builtin.copy_ #[dT, sT] ty #[.slice d dLen dCap, .slice a sLen sCap]).run P w = .ok (goInt 0) w := by
  cases hq : P.info? elem with
  | none => simp [hq] at hs
  | some i =>
    have hl : ∀ (x : Addr), (loadCells x 0).run P w = .ok #[] w := fun x => by simpa using run_loadCells_list (P := P) w x [] (by simp)
    cases d <;> cases a <;> simp [Builtin.copy_, run_underlying hu, Builtin.lenOf, Builtin.firstCells, sizeOf, typeInfo, hq, storeCells, hn, hl]
theorem wpList_copy_zero {P : Program} (s : Nat) {w : World} {ops : Array Oper} {rest : List Oper} {o : Oper} {a : Act} {Q : Exit → Act → World → Prop} (hgd : o.guard = none) (d x : Operand) (dT sT : TypeId)
    (ho : o.op = .call { callee := .builtin .copy, args := #[d, x], argTypes := #[dT, sT] }) (elem : TypeId) (hu : P.underlying dT = some (.slice elem)) (hsz : (P.info? elem).map (·.size) = some s)
    (dp sp : Option Addr) (dLen dCap sLen sCap : Nat) (hd : a.eval d = .slice dp dLen dCap) (hs : a.eval x = .slice sp sLen sCap) (hn : Nat.min sLen dLen = 0)
    (h : wpList P ops Q rest (a.put o.dst (goInt 0)) w) : wpList P ops Q (o :: rest) a w := by
  refine wpList_plain hgd fun K hK => ?_
  have hrun := run_copy_zero (P := P) s w dT sT o.type elem dp sp dLen dCap sLen sCap hu hsz hn
  unfold Oper.wp
  simp [execOp, ho, resolve, invoke, builtin, hd, hs, hrun, Result.andThen]
  exact hK _ _ h

theorem cells_at25 {w : World} {ad : Addr} {n : Nat} {L : List S25} (h : k25.C w (some ad) n L) : ∀ j v, (flatC L)[j]? = some v → w.cell? (ad.add j) = some v := by
  have key : ∀ (M : List S25) (j : Nat) (v : Value), (flatC M)[j]? = some v → ∃ i c, M[i]? = some c ∧ ((j = 2 * i ∧ v = .int .i32 c.f0) ∨ (j = 2 * i + 1 ∧ v = .int .u32 c.f1)) := by
    intro M
    induction M with
    | nil => intro j v h; simp [flatC] at h
    | cons c M ih =>
      intro j v h
      simp only [flatC] at h
      match j, h with
      | 0, h => exact ⟨0, c, rfl, .inl ⟨rfl, by simpa using h.symm⟩⟩
      | 1, h => exact ⟨0, c, rfl, .inr ⟨rfl, by simpa using h.symm⟩⟩
      | j + 2, h =>
        simp only [List.getElem?_cons_succ] at h
        obtain ⟨i, c', h1, h2⟩ := ih j v h
        refine ⟨i + 1, c', by simpa using h1, ?_⟩
        rcases h2 with ⟨rfl, e⟩ | ⟨rfl, e⟩
        · exact .inl ⟨by omega, e⟩
        · exact .inr ⟨by omega, e⟩
  intro j v hj
  obtain ⟨i, c, h1, h2⟩ := key L j v hj
  have hi : i < L.length := (List.getElem?_eq_some_iff.1 h1).1
  have hn : L.length = n := h.1
  obtain ⟨ad', e, hc⟩ := h.2.2 (by omega)
  obtain rfl := Option.some.inj e
  obtain ⟨cs, hl, hK, hcc⟩ := hc i c h1
  obtain rfl := k25_open hK
  rcases h2 with ⟨rfl, rfl⟩ | ⟨rfl, rfl⟩
  · have := hcc 0 _ rfl
    rw [Nat.mul_comm]
    exact this
  · have := hcc 1 _ rfl
    rw [Nat.mul_comm]
    exact this

set_option maxRecDepth 100000 in
set_option maxHeartbeats 4000000 in
theorem new_any (A : Option Addr) (n c : Nat) (L : List S25) (w : World) (hr : k25.C w A n L) (hc : n ≤ c) (hn : n ≤ 48) :
    Calls Try.prog 11 #[.slice A n c] w fun e w' => e = .returned (.tuple #[.agg (boardC (fL L) n), .int .i64 0]) ∧ Below w.heap.size w w' := by
  have hz := zero_board
  have hln : L.length = n := hr.1
  have hal := below_alloc (below_alloc (Below.refl w.heap.size w) (Obj.cells (boardC (fun _ => z25) 0) 30)) (Obj.cells (boardC (fun _ => z25) 0) 30)
  have g0 : Bd ((w.alloc (Obj.cells (boardC (fun _ => z25) 0) 30)).alloc (Obj.cells (boardC (fun _ => z25) 0) 30)) w.heap.size (fun _ => z25) 0 := blk_alloc (blk_new _ _) _
  have g1 : ((w.alloc (Obj.cells (boardC (fun _ => z25) 0) 30)).alloc (Obj.cells (boardC (fun _ => z25) 0) 30)).heap[w.heap.size + 1]? = some (.cells (boardC (fun _ => z25) 0) 30 (0, 0)) := by simpa using blk_new (w.alloc (Obj.cells (boardC (fun _ => z25) 0) 30)) (Obj.cells (boardC (fun _ => z25) 0) 30)
  have HR := Aside0.mk (Kd.C_below hr hal)
  have HG0 := Aside0.mk g0
  have HG1 := Aside0.mk g1
  have HAL := Aside0.mk hal
  have HI := fun f m => Aside0.mk (board_info f m)
  have HO := fun f m => Aside0.mk (boardC_one f m)
  have d1 : decide (48 < (n : Int)) = false := decide_eq_false (by omega)
  have HN := Aside0.mk (⟨hn, hln⟩ : n ≤ 48 ∧ L.length = n)
  obtain ⟨W, hW⟩ : ∃ W, (w.alloc (Obj.cells (boardC (fun _ => z25) 0) 30)).alloc (Obj.cells (boardC (fun _ => z25) 0) 30) = W := ⟨_, rfl⟩
  have hgi : goInt (n : Int) = .int .i64 (n : Int) := rfl
  obtain ⟨W1, hcp, b1, b0, bl⟩ : ∃ W1, (Builtin.copy_ #[27, 27] 3 #[.slice (some ⟨w.heap.size + 1, 0, none⟩) 48 48, .slice A n c]).run Try.prog W = .ok (.int .i64 (n : Int)) W1 ∧ Bd W1 (w.heap.size + 1) (fL L) 0 ∧ Bd W1 w.heap.size (fun _ => z25) 0 ∧ Below w.heap.size w W1 := by
    by_cases h0 : n = 0
    · have hL : L = [] := List.length_eq_zero_iff.1 (by omega)
      refine ⟨W, ?_, ?_, by rw [← hW]; exact g0, by rw [← hW]; exact hal⟩
      · rw [run_copy_zero 2 W _ _ _ 25 _ _ 48 48 n c Try.underlying27 (by kernel_rfl) (by rw [h0]; rfl), h0]; rfl
      · rw [hL, ← hW]; exact g1.trans (congrArg (fun z => some (Obj.cells z 30 (0, 0))) (boardC_congr 0 (fun i _ => by simp [fL])))
    · obtain ⟨ad, rfl⟩ : ∃ ad, A = some ad := by
        obtain ⟨ad, e, _⟩ := hr.2.2 (by omega)
        exact ⟨ad, e⟩
      have hrW : k25.C W (some ad) n L := by rw [← hW]; exact Kd.C_below hr hal
      have hmin : Nat.min n 48 = n := Nat.min_eq_left hn
      have g1W : W.heap[w.heap.size + 1]? = some (.cells (boardC (fun _ => z25) 0) 30 (0, 0)) := by rw [← hW]; exact g1
      have key := run_copy_rows (P := Try.prog) 2 W 27 27 3 25 (w.heap.size + 1) 0 48 48 ad n c (boardC (fun _ => z25) 0) 30 (flatC L) Try.underlying27 (by kernel_rfl) g1W (by rw [flatC_length, hmin, hln, Nat.mul_comm]) (cells_at25 hrW) (by rw [flatC_length, boardC_size]; omega) (flatC_one L)
      rw [hmin, hgi] at key
      refine ⟨_, key, ?_, ?_, ?_⟩
      · refine (setRow_heap _ _ _ _ _ _ g1W).trans ?_
        have hcp := board_copied L (by omega) 0
        show some (Obj.cells ((boardL (fun _ => z25) 0).take 0 ++ flatC L ++ (boardL (fun _ => z25) 0).drop (0 + (flatC L).length)).toArray _ _) = _
        rw [hcp]; rfl
      · exact (setRow_other _ _ _ _ (by omega)).trans (by rw [← hW]; exact g0)
      · exact below_setRow (by rw [← hW]; exact hal) (Nat.le_succ _) _
  rw [← hW] at hcp
  have b96 := b1.num
  have f96 := b1.frozen 96
  have B1 := Aside0.mk (b1.setn n)
  have B0 : Aside0 (Bd (W1.setCell ⟨w.heap.size + 1, 96, none⟩ (.int .i64 n)) w.heap.size (fun _ => z25) 0) := ⟨(Below.heap_setCell _ _ _ _ (by simp)).trans b0⟩
  have BL := Aside0.mk (bl.setCell (p := ⟨w.heap.size + 1, 96, none⟩) (Nat.le_succ _) (.int .i64 n))
  clear hr hal g0 g1 hn hln hc hgi hW b1 b0 bl HR HG0 HG1 HAL HN
  go_enter Try.func11, Try.ntmps11
  go_wp2_with (first | (refine wpList_load_row rfl 30 (.tmp 4) rfl (w.heap.size + 1) rfl 30 _ (0, 0) _ B1.out Try.underlying30 rfl (HI _ _).out ?_) | (refine wpList_store_row rfl 30 (.tmp 2) (.tmp 14) rfl w.heap.size (boardC (fL L) n) rfl rfl 30 _ B0.out (HI _ _).out (by rw [boardC_size, boardC_size]) (HO _ _).out ?_))
  refine bodyPost_ret (results_ct rfl _ _ w.heap.size _ (boardC (fL L) n) (0, 0) _ rfl (setRow_heap _ _ _ _ _ _ B0.out) Try.underlying30 rfl (HI _ _).out) rfl ?_
  exact ⟨rfl, below_setRow BL.out (Nat.le_refl _) _⟩

set_option maxRecDepth 100000 in
set_option maxHeartbeats 4000000 in
theorem new_full (A : Option Addr) (n c : Nat) (w : World) (hn : 48 < n) :
    Calls Try.prog 11 #[.slice A n c] w fun e w' => e = .returned (.tuple #[.agg (boardC (fun _ => z25) 0), .int .i64 6]) ∧ Below w.heap.size w w' := by
  have hz := zero_board
  have hal := below_alloc (below_alloc (Below.refl w.heap.size w) (Obj.cells (boardC (fun _ => z25) 0) 30)) (Obj.cells (boardC (fun _ => z25) 0) 30)
  have G0 : Aside0 (Bd ((w.alloc (Obj.cells (boardC (fun _ => z25) 0) 30)).alloc (Obj.cells (boardC (fun _ => z25) 0) 30)) w.heap.size (fun _ => z25) 0) := ⟨blk_alloc (blk_new _ _) _⟩
  have HAL := Aside0.mk hal
  have HI := fun f m => Aside0.mk (board_info f m)
  have HO := fun f m => Aside0.mk (boardC_one f m)
  have d1 : decide (48 < (n : Int)) = true := decide_eq_true (by omega)
  have d1' : (48 : Int) < n := by omega
  clear hal hn
  go_enter Try.func11, Try.ntmps11
  go_wp2_with (first | (refine wpList_store_row rfl 30 (.tmp 2) (.tmp 8) rfl w.heap.size (boardC (fun _ => z25) 0) rfl rfl 30 _ G0.out (HI _ _).out rfl (HO _ _).out ?_))
  refine bodyPost_ret (results_ct rfl _ _ w.heap.size _ (boardC (fun _ => z25) 0) (0, 0) _ rfl (setRow_heap _ _ _ _ _ _ G0.out) Try.underlying30 rfl (HI _ _).out) rfl ?_
  exact ⟨rfl, below_setRow HAL.out (Nat.le_refl _) _⟩
set_option maxHeartbeats 1000000 in
theorem len_any (f : Nat → S25) (n : Int) (w : World) :
    Calls Try.prog 14 #[.agg (boardC f n)] w fun e w' => e = .returned (.int .i64 n) ∧ Below w.heap.size w w' := by
  have c96 := Bd.num (w := w.alloc (.cells (boardC f n) 30)) (blk_new w (.cells (boardC f n) 30))
  go_enter Try.func14, Try.ntmps14
  go_wp2_with fail
  go_ret
  exact ⟨rfl, below_alloc (Below.refl _ _) _⟩
set_option maxHeartbeats 1000000 in
theorem there_any (f : Nat → S25) (n i : Int) (w : World) :
    Calls Try.prog 34 #[.agg (boardC f n), .int .i64 i] w fun e w' => e = .returned (.bool (decide (0 ≤ i ∧ i < n))) ∧ Below w.heap.size w w' := by
  have c96 := Bd.num (w := w.alloc (.cells (boardC f n) 30)) (blk_new w (.cells (boardC f n) 30))
  by_cases h0 : 0 ≤ i
  · by_cases h1 : i < n
    · rw [decide_eq_true ⟨h0, h1⟩]
      go_enter Try.func34, Try.ntmps34
      go_wp2_with fail
      go_ret
      exact ⟨rfl, below_alloc (Below.refl _ _) _⟩
    · rw [decide_eq_false (fun h => h1 h.2)]
      go_enter Try.func34, Try.ntmps34
      go_wp2_with fail
      go_ret
      exact ⟨rfl, below_alloc (Below.refl _ _) _⟩
  · rw [decide_eq_false (fun h => h0 h.1)]
    go_enter Try.func34, Try.ntmps34
    go_wp2_with fail
    go_ret
    exact ⟨rfl, below_alloc (Below.refl _ _) _⟩
end Go.Proofs.Ytkjjmmgngdpppaa
