/- few, Within, Join of one more; board.Put, Show, Shown. -/
import Derived.Test.YtkjjmmgngdpppaaUm
import Derived.Test.YtkjjmmgngdpppaaUj
import Derived.Test.YtkjjmmgngdpppaaR2
import Derived.Test.YtkjjmmgngdpppaaHp
namespace Go.Proofs.Ytkjjmmgngdpppaa
open Go.RowKit Go.Proofs.YtkjjmmgngdpppaaW.PrintWords Go.Proofs.YtkjjmmgngdpppaaW.PrintLast Go.Proofs.YtkjjmmgngdpppaaW.PrintMore
set_option linter.unusedVariables false
set_option linter.unusedSimpArgs false

/-- A cell that may be. -/
def OkC (x : S25) : Prop := (Lit.int .i32 x.f0).wf = true ∧ (Lit.int .u32 x.f1).wf = true
def I64 (n : Int) : Prop := -9223372036854775808 ≤ n ∧ n ≤ 9223372036854775807
def U32 (n : Int) : Prop := 0 ≤ n ∧ n < 4294967296
theorem few_f (L : List S25) : hoodwinklaw06_few.f L = some (L.take 48) := by
  unfold hoodwinklaw06_few.f
  have h1 : (0 : Int) ≤ mn (L.length : Int) 48 := by unfold mn; split <;> omega
  have h2 : mn (L.length : Int) 48 ≤ (L.length : Int) := by unfold mn; split <;> omega
  have h3 : (mn (L.length : Int) 48).toNat = min L.length 48 := by unfold mn; split <;> omega
  have h4 : L.take (min L.length 48) = L.take 48 := by rw [List.take_eq_take_iff]; omega
  show ((if 0 ≤ mn (L.length : Int) 48 then _ else none : Option (List S25))) = _
  rw [if_pos h1, if_pos h2, h3, h4]
  show ((if ([] : List S25).length + (L.take 48).length < 17592186044416 then some ([] ++ L.take 48) else none : Option (List S25))) = _
  rw [if_pos (by rw [List.length_take]; simp; omega), List.nil_append]
theorem few_any (A : Option Addr) (n c : Nat) (L : List S25) (w : World) (hr : k25.C w A n L) (hc : n ≤ c) :
    Calls Try.prog 15 #[.slice A n c] w fun e w' => ∃ v, e = .returned v ∧ k25.R 25 w' w.heap.size (fun _ => True) v (L.take 48) ∧ Below w.heap.size w w' := by
  obtain rfl := hr.1
  exact hoodwinklaw06_few.calls A c L _ w hr hc (few_f L)
theorem within_any (a b : Int) (w : World) : Calls Try.prog 18 #[.int .u32 a, .int .u32 b] w fun e w' => e = .returned (.bool (withinB a b)) ∧ Drawn0 w w' :=
  mask_Mask_Within.calls a b _ w rfl
theorem join_f (a b : Int) : mask_Mask_Join.f 5 a [b] = some (bits .or .u32 a b) := by
  have hw : wrap64 1 = 1 := by unfold wrap64; omega
  simp [mask_Mask_Join.f, mask_Mask_Join.l0, hw, rd]
theorem join_one (a b : Int) (g : Nat) (w : World) (h : w.heap[g]? = some (.cells #[.int .u32 b] 23 (0, 0))) :
    Calls Try.prog 35 #[.int .u32 a, .slice (some ⟨g, 0, none⟩) 1 1] w fun e w' => e = .returned (.int .u32 (bits .or .u32 a b)) ∧ Drawn0 w w' :=
  mask_Mask_Join.calls 5 a (some ⟨g, 0, none⟩) 1 [b] _ w (C_of_block h ⟨rfl, rfl, (by show 1 ≤ _; omega)⟩) (Nat.le_refl _) (join_f a b)

/-- Another cell at a place. -/
def putF (f : Nat → S25) (j : Nat) (c : S25) : Nat → S25 := fun i => if i = j then c else f i
theorem boardC_put (f : Nat → S25) (n : Int) {j : Nat} (hj : j < 48) (c : S25) : ((boardC f n).setIfInBounds (2 * j) (.int .i32 c.f0)).setIfInBounds (2 * j + 1) (.int .u32 c.f1) = boardC (putF f j c) n := by
  rw [boardC_setlo f n c.f0 hj, boardC_sethi _ n c.f1 hj]
  refine boardC_congr n (fun i _ => ?_)
  unfold putF
  by_cases h : i = j <;> simp [h]

set_option maxRecDepth 100000 in
set_option maxHeartbeats 4000000 in
theorem put_any (f : Nat → S25) (n j : Nat) (c : S25) (w : World) (hj : j < n) (hn : n ≤ 48) :
    Calls Try.prog 21 #[.agg (boardC f n), .int .i64 j, .agg #[.int .i32 c.f0, .int .u32 c.f1]] w fun e w' => e = .returned (.tuple #[.agg (boardC (putF f j c) n), .int .i64 0]) ∧ Below w.heap.size w w' := by
  have hz := zero_board
  have HI := fun f m => Aside0.mk (board_info f m)
  have HO := fun f m => Aside0.mk (boardC_one f m)
  have HP := Aside0.mk ((((Hp.start w).alloc (.cells (boardC f n) 30)).allocAt (.cells #[.int .i32 c.f0, .int .u32 c.f1] 25) (w.heap.size + 1) (by simp)).allocAt (.cells (boardC (fun _ => z25) 0) 30) (w.heap.size + 1 + 1) (by simp))
  have KT : Aside0 (∀ X : World, Calls Try.prog 34 #[.agg (boardC f n), .int .i64 j] X fun e w' => e = .returned (.bool true) ∧ Below X.heap.size X w') := ⟨fun X => by have := there_any f n j X; rw [decide_eq_true ⟨by omega, by omega⟩] at this; exact this⟩
  have HJ := Aside0.mk (⟨hj, hn⟩ : j < n ∧ n ≤ 48)
  have hj48 : (j : Int) < 48 := by omega
  have hjj : (0 : Int) ≤ j := by omega
  clear hj hn
  go_enter Try.func21, Try.ntmps21
  go_wp2_with (first | (refine wpList_load_row rfl 30 (.tmp 3) rfl w.heap.size rfl 30 _ (0, 0) _ (HP.out.get (i := 2) rfl) Try.underlying30 rfl (HI _ _).out ?_))
  refine (KT.out _).mono ?_
  rintro e w1 ⟨rfl, hb1⟩
  have HP1 := Aside0.mk (HP.out.call hb1)
  have b0 : Bd w1 w.heap.size f n := HP1.out.get (i := 2) rfl
  have c0 := b0.lo (j := j) (by have := HJ.out; omega)
  have c1 := b0.hi (j := j) (by have := HJ.out; omega)
  have f0' := b0.frozen (2 * j)
  have f1' := b0.frozen (2 * j + 1)
  have a0 := blk_cell (HP1.out.get (i := 1) rfl) 0
  have a1 := blk_cell (HP1.out.get (i := 1) rfl) 1
  rw [Nat.mul_comm] at c0 c1 f0' f1'
  have HP2 := Aside0.mk (((HP1.out.setCell (i := 2) rfl (j * 2) (.int .i32 c.f0)).setCell (i := 2) rfl (j * 2 + 1) (.int .u32 c.f1)).alt (i := 2) (o' := .cells (boardC (putF f j c) n) 30 (0, 0)) rfl (by rw [Nat.mul_comm j 2, boardC_put f n (by have := HJ.out; omega) c]))
  clear KT hb1 HP b0
  go_wp2_with (first | (refine wpList_load_row rfl 30 (.tmp 3) rfl w.heap.size rfl 30 _ (0, 0) _ (HP2.out.get (i := 2) rfl) Try.underlying30 rfl (HI _ _).out ?_) | (refine wpList_store_row rfl 30 (.tmp 6) (.tmp 17) rfl (w.heap.size + 1 + 1) (boardC (putF f j c) n) rfl rfl 30 _ (HP2.out.get (i := 0) rfl) (HI _ _).out (by rw [boardC_size, boardC_size]) (HO _ _).out ?_))
  have HP3 := Aside0.mk (HP2.out.setRow (i := 0) rfl (boardC (putF f j c) n))
  refine bodyPost_ret (results_ct rfl _ _ (w.heap.size + 1 + 1) _ (boardC (putF f j c) n) (0, 0) _ rfl (HP3.out.get (i := 0) rfl) Try.underlying30 rfl (HI _ _).out) rfl ?_
  exact ⟨rfl, HP3.out.bel⟩

set_option maxRecDepth 100000 in
set_option maxHeartbeats 4000000 in
theorem put_no (f : Nat → S25) (n : Int) (j : Int) (c : S25) (w : World) (hj : ¬ (0 ≤ j ∧ j < n)) :
    Calls Try.prog 21 #[.agg (boardC f n), .int .i64 j, .agg #[.int .i32 c.f0, .int .u32 c.f1]] w fun e w' => e = .returned (.tuple #[.agg (boardC f n), .int .i64 7]) ∧ Below w.heap.size w w' := by
  have hz := zero_board
  have HI := fun f m => Aside0.mk (board_info f m)
  have HO := fun f m => Aside0.mk (boardC_one f m)
  have HP := Aside0.mk ((((Hp.start w).alloc (.cells (boardC f n) 30)).allocAt (.cells #[.int .i32 c.f0, .int .u32 c.f1] 25) (w.heap.size + 1) (by simp)).allocAt (.cells (boardC (fun _ => z25) 0) 30) (w.heap.size + 1 + 1) (by simp))
  have KT : Aside0 (∀ X : World, Calls Try.prog 34 #[.agg (boardC f n), .int .i64 j] X fun e w' => e = .returned (.bool false) ∧ Below X.heap.size X w') := ⟨fun X => by have := there_any f n j X; rw [decide_eq_false hj] at this; exact this⟩
  clear hj
  go_enter Try.func21, Try.ntmps21
  go_wp2_with (first | (refine wpList_load_row rfl 30 (.tmp 3) rfl (w.heap.size) rfl 30 _ (0, 0) _ (HP.out.get (i := 2) rfl) Try.underlying30 rfl (HI _ _).out ?_))
  refine (KT.out _).mono ?_
  rintro e w1 ⟨rfl, hb1⟩
  have HP2 := Aside0.mk (HP.out.call hb1)
  clear KT hb1 HP
  go_wp2_with (first | (refine wpList_load_row rfl 30 (.tmp 3) rfl (w.heap.size) rfl 30 _ (0, 0) _ (HP2.out.get (i := 2) rfl) Try.underlying30 rfl (HI _ _).out ?_) | (refine wpList_store_row rfl 30 (.tmp 6) (.tmp 12) rfl (w.heap.size + 1 + 1) (boardC f n) rfl rfl 30 _ (HP2.out.get (i := 0) rfl) (HI _ _).out (by rw [boardC_size, boardC_size]) (HO _ _).out ?_))
  have HP3 := Aside0.mk (HP2.out.setRow (i := 0) rfl (boardC f n))
  refine bodyPost_ret (results_ct rfl _ _ (w.heap.size + 1 + 1) _ (boardC f n) (0, 0) _ rfl (HP3.out.get (i := 0) rfl) Try.underlying30 rfl (HI _ _).out) rfl ?_
  exact ⟨rfl, HP3.out.bel⟩

set_option maxRecDepth 100000 in
set_option maxHeartbeats 4000000 in
theorem show_no (f : Nat → S25) (n : Int) (j : Int) (tm : Int) (w : World) (hj : ¬ (0 ≤ j ∧ j < n)) :
    Calls Try.prog 16 #[.agg (boardC f n), .int .i64 j, .int .u32 tm] w fun e w' => e = .returned (.tuple #[.agg (boardC f n), .bool false, .int .i64 7]) ∧ Below w.heap.size w w' := by
  have hz := zero_board
  have HI := fun f m => Aside0.mk (board_info f m)
  have HO := fun f m => Aside0.mk (boardC_one f m)
  have HP := Aside0.mk (((Hp.start w).alloc (.cells (boardC f n) 30)).allocAt (.cells (boardC (fun _ => z25) 0) 30) (w.heap.size + 1) (by simp))
  have KT : Aside0 (∀ X : World, Calls Try.prog 34 #[.agg (boardC f n), .int .i64 j] X fun e w' => e = .returned (.bool false) ∧ Below X.heap.size X w') := ⟨fun X => by have := there_any f n j X; rw [decide_eq_false hj] at this; exact this⟩
  clear hj
  go_enter Try.func16, Try.ntmps16
  go_wp2_with (first | (refine wpList_load_row rfl 30 (.tmp 3) rfl (w.heap.size) rfl 30 _ (0, 0) _ (HP.out.get (i := 1) rfl) Try.underlying30 rfl (HI _ _).out ?_))
  refine (KT.out _).mono ?_
  rintro e w1 ⟨rfl, hb1⟩
  have HP2 := Aside0.mk (HP.out.call hb1)
  clear KT hb1 HP
  go_wp2_with (first | (refine wpList_load_row rfl 30 (.tmp 3) rfl (w.heap.size) rfl 30 _ (0, 0) _ (HP2.out.get (i := 1) rfl) Try.underlying30 rfl (HI _ _).out ?_) | (refine wpList_store_row rfl 30 (.tmp 6) (.tmp 14) rfl (w.heap.size + 1) (boardC f n) rfl rfl 30 _ (HP2.out.get (i := 0) rfl) (HI _ _).out (by rw [boardC_size, boardC_size]) (HO _ _).out ?_))
  have HP3 := Aside0.mk (HP2.out.setRow (i := 0) rfl (boardC f n))
  refine bodyPost_ret (results_ctt rfl _ _ (w.heap.size + 1) _ (boardC f n) (0, 0) _ rfl (HP3.out.get (i := 0) rfl) Try.underlying30 rfl (HI _ _).out) rfl ?_
  exact ⟨rfl, HP3.out.bel⟩
/-- A cell that some may see, too. -/
def showF (f : Nat → S25) (j : Nat) (tm : Int) : Nat → S25 := putF f j ⟨(f j).f0, bits .or .u32 (f j).f1 tm⟩
theorem boardC_show (f : Nat → S25) (n : Int) {j : Nat} (hj : j < 48) (tm : Int) : (boardC f n).setIfInBounds (2 * j + 1) (.int .u32 (bits .or .u32 (f j).f1 tm)) = boardC (showF f j tm) n := by
  rw [boardC_sethi f n _ hj]
  refine boardC_congr n (fun i _ => ?_)
  unfold showF putF
  by_cases h : i = j <;> simp [h]

set_option maxRecDepth 100000 in
set_option maxHeartbeats 4000000 in
theorem show_any (f : Nat → S25) (n j : Nat) (tm : Int) (w : World) (hj : j < n) (hn : n ≤ 48) :
    Calls Try.prog 16 #[.agg (boardC f n), .int .i64 j, .int .u32 tm] w fun e w' => e = .returned (.tuple #[.agg (boardC (showF f j tm) n), .bool (!withinB tm (f j).f1), .int .i64 0]) ∧ Below w.heap.size w w' := by
  have hz := zero_board
  have HI := fun f m => Aside0.mk (board_info f m)
  have HO := fun f m => Aside0.mk (boardC_one f m)
  have HP := Aside0.mk (((Hp.start w).alloc (.cells (boardC f n) 30)).allocAt (.cells (boardC (fun _ => z25) 0) 30) (w.heap.size + 1) (by simp))
  have KT : Aside0 (∀ X : World, Calls Try.prog 34 #[.agg (boardC f n), .int .i64 j] X fun e w' => e = .returned (.bool true) ∧ Below X.heap.size X w') := ⟨fun X => by have := there_any f n j X; rw [decide_eq_true ⟨by omega, by omega⟩] at this; exact this⟩
  have HJ := Aside0.mk (⟨hj, hn⟩ : j < n ∧ n ≤ 48)
  have hj48 : (j : Int) < 48 := by omega
  have hjj : (0 : Int) ≤ j := by omega
  clear hj hn
  go_enter Try.func16, Try.ntmps16
  go_wp2_with (first | (refine wpList_load_row rfl 30 (.tmp 3) rfl (w.heap.size) rfl 30 _ (0, 0) _ (HP.out.get (i := 1) rfl) Try.underlying30 rfl (HI _ _).out ?_))
  refine (KT.out _).mono ?_
  rintro e w1 ⟨rfl, hb1⟩
  have HP1 := Aside0.mk (HP.out.call hb1)
  have b0 : Bd w1 w.heap.size f n := HP1.out.get (i := 1) rfl
  have c1 := b0.hi (j := j) (by have := HJ.out; omega)
  rw [Nat.mul_comm] at c1
  clear KT hb1 HP b0
  go_wp2_with fail
  refine (within_any _ _ _).mono ?_
  rintro e w2 ⟨rfl, nd, rfl⟩
  have HP2 := Aside0.mk (HP1.out.drewN nd)
  clear HP1 c1
  generalize w1.drewN nd = w2 at *
  have b0 : Bd w2 w.heap.size f n := HP2.out.get (i := 1) rfl
  have c1 := b0.hi (j := j) (by have := HJ.out; omega)
  rw [Nat.mul_comm] at c1
  have HP3 := Aside0.mk (HP2.out.alloc (.cells #[.int .u32 tm] 23))
  have KJ := Aside0.mk (join_one (f j).f1 tm _ _ (HP3.out.get (i := 0) rfl))
  clear HP2 b0
  go_wp2_with fail
  refine KJ.out.mono ?_
  rintro e w3 ⟨rfl, nd3, rfl⟩
  have HP4 := Aside0.mk (HP3.out.drewN nd3)
  clear HP3 KJ c1
  generalize (w2.alloc (.cells #[.int .u32 tm] 23)).drewN nd3 = w3 at *
  have b0 : Bd w3 w.heap.size f n := HP4.out.get (i := 2) rfl
  have c1 := b0.hi (j := j) (by have := HJ.out; omega)
  have f1' := b0.frozen (2 * j + 1)
  rw [Nat.mul_comm] at c1 f1'
  have HP5 := Aside0.mk ((HP4.out.setCell (i := 2) rfl (j * 2 + 1) (.int .u32 (bits .or .u32 (f j).f1 tm))).alt (i := 2) (o' := .cells (boardC (showF f j tm) n) 30 (0, 0)) rfl (by rw [Nat.mul_comm j 2, boardC_show f n (by have := HJ.out; omega) tm]))
  clear HP4 b0
  go_wp2_with (first | (refine wpList_load_row rfl 30 (.tmp 3) rfl (w.heap.size) rfl 30 _ (0, 0) _ (HP5.out.get (i := 2) rfl) Try.underlying30 rfl (HI _ _).out ?_) | (refine wpList_store_row rfl 30 (.tmp 6) (.tmp 35) rfl (w.heap.size + 1) (boardC (showF f j tm) n) rfl rfl 30 _ (HP5.out.get (i := 1) rfl) (HI _ _).out (by rw [boardC_size, boardC_size]) (HO _ _).out ?_))
  have HP6 := Aside0.mk (HP5.out.setRow (i := 1) rfl (boardC (showF f j tm) n))
  refine bodyPost_ret (results_ctt rfl _ _ (w.heap.size + 1) _ (boardC (showF f j tm) n) (0, 0) _ rfl (HP6.out.get (i := 1) rfl) Try.underlying30 rfl (HI _ _).out) rfl ?_
  exact ⟨rfl, HP6.out.bel⟩

/-- The places, of the first m, that one sees. -/
def shownL (f : Nat → S25) (m : Nat) (o : Int) : List Int := ((List.range m).filter (fun k => hasB (f k).f1 o)).map (fun k : Nat => (k : Int))
theorem shownL_yes (f : Nat → S25) (m : Nat) (o : Int) (h : hasB (f m).f1 o = true) : shownL f (m + 1) o = shownL f m o ++ [(m : Int)] := by
  unfold shownL; rw [List.range_succ, List.filter_append, List.map_append]; simp [h]
theorem shownL_no (f : Nat → S25) (m : Nat) (o : Int) (h : hasB (f m).f1 o = false) : shownL f (m + 1) o = shownL f m o := by
  unfold shownL; rw [List.range_succ, List.filter_append, List.map_append]; simp [h]
theorem shownL_len (f : Nat → S25) (m : Nat) (o : Int) : (shownL f m o).length ≤ m := by
  unfold shownL
  rw [List.length_map]
  exact Nat.le_trans (List.length_filter_le _ _) (by simp)
theorem info_int : (Try.prog.info? 3).map (fun i => (i.zero, i.size, i.bytes)) = some (some (.int .i64 0), 1, 8) := by kernel_rfl

set_option maxRecDepth 100000 in
set_option maxHeartbeats 4000000 in
theorem shown_any (f : Nat → S25) (n : Nat) (o : Int) (w : World) (hn : n ≤ 48) :
    Calls Try.prog 17 #[.agg (boardC f n), .int .i64 o] w fun e w' => ∃ v, e = .returned v ∧ (Kd.int .i64).R 3 w' w.heap.size (fun _ => True) v (shownL f n o) ∧ Below w.heap.size w w' := by
  obtain ⟨W, hW⟩ : ∃ W, w.alloc (.cells (boardC f n) 30) = W := ⟨_, rfl⟩
  have g0 : Bd W w.heap.size f n := by rw [← hW]; exact blk_new _ _
  have HB0 : Aside0 (Below w.heap.size w W ∧ W.heap.size = w.heap.size + 1) := ⟨by rw [← hW]; exact ⟨below_alloc (Below.refl _ _) _, by simp⟩⟩
  have c96 := g0.num
  have HW := Aside0.mk hW
  have HN := Aside0.mk hn
  have hn48 : (n : Int) ≤ 48 := by omega
  have G0 := Aside0.mk g0
  rw [← hW] at c96
  clear g0 hW hn
  go_enter Try.func17, Try.ntmps17
  go_wp2_with fail
  rw [HW.out]
  clear c96
  have H0 : Aside0 ((Kd.int .i64).R 3 W W.heap.size (fun _ => True) (.slice none 0 0) (shownL f 0 o) ∧ Below W.heap.size W W) := ⟨⟨Kd.R_nil _ _ _ _ _, Below.refl _ _⟩⟩
  go_loopw [5, 13] (fun v5 v13 wr => ∃ (i : Nat) (v : Value), i ≤ n ∧ v = v5 ∧ v13 = .int .i64 i ∧ Aside0 ((Kd.int .i64).R 3 wr W.heap.size (fun _ => True) v (shownL f i o) ∧ Below W.heap.size W wr)) (fun _ v13 _ => n - (intOf v13).toNat)
  case atStart => exact ⟨0, _, by omega, rfl, rfl, H0⟩
  case round =>
    clear H0
    obtain ⟨i, v, hi, rfl, rfl, H⟩ := hrel
    have hmx : n ≤ 48 := HN.out
    by_cases hlt : i < n
    · have d1 : decide (i < n) = true := decide_eq_true hlt
      have b0 : Bd wr w.heap.size f n := blk_below G0.out H.out.2
      have c0 := b0.lo (j := i) (by omega)
      have c1 := b0.hi (j := i) (by omega)
      have hi48 : (i : Int) < 48 := by omega
      rw [Nat.mul_comm] at c0 c1
      clear b0
      cases hh : hasB (f i).f1 o with
      | true =>
        have KH : Aside0 (∀ X : World, Calls Try.prog 19 #[.int .u32 (f i).f1, .int .i64 o] X fun e w' => e = .returned (.bool true) ∧ Drawn0 X w') := ⟨fun X => by have := has_any (f i).f1 o X; rw [hh] at this; exact this⟩
        have HV := Aside0.mk (shownL_yes f i o hh)
        have HL := Aside0.mk (shownL_len f i o)
        clear hh
        go_wp2_with fail
        refine (KH.out _).mono ?_
        rintro e w2 ⟨rfl, nd, rfl⟩
        have H2 : Aside0 ((Kd.int .i64).R 3 ((wr.alloc (.cells #[.int .i32 (f i).f0, .int .u32 (f i).f1] 25)).drewN nd) W.heap.size (fun _ => True) v (shownL f i o) ∧ Below W.heap.size W ((wr.alloc (.cells #[.int .i32 (f i).f0, .int .u32 (f i).f1] 25)).drewN nd)) := ⟨⟨Kd.R_drewN (Kd.R_alloc H.out.1 _) _, pw_below_drewN (below_alloc H.out.2 _) nd⟩⟩
        clear KH H c0 c1
        generalize (wr.alloc (.cells #[.int .i32 (f i).f0, .int .u32 (f i).f1] 25)).drewN nd = w3 at *
        have HC := Aside0.mk (C_of_block (k := .i64) (xs := [(i : Int)]) (n := 1) (blk_new w3 (.cells #[.int .i64 i] 3)) ⟨rfl, rfl, by omega⟩)
        have HB3 := Aside0.mk (below_alloc H2.out.2 (.cells #[.int .i64 i] 3))
        have HR3 := Aside0.mk (Kd.R_alloc H2.out.1 (.cells #[.int .i64 i] 3))
        have hi0 : i ≤ 48 := by omega
        go_wp2_with (at_builtin; refine R_app .i64 (w0 := W) W.heap.size rfl (.tmp 22) (.tmp 24) 42 3 8 rfl Try.underlying42 info_int (by decide) v (shownL f i o) [(i : Int)] (some ⟨w3.heap.size, 0, none⟩) 1 1 (fun _ => True) rfl rfl HR3.out HC.out (fun _ _ => trivial) HB3.out HB3.out.size (by have := HL.out; omega) ?_)
        intro v1 w4 ho hb4 _ _
        have H5 : Aside0 ((Kd.int .i64).R 3 w4 W.heap.size (fun _ => True) v1 (shownL f (i + 1) o) ∧ Below W.heap.size W w4) := ⟨⟨by rw [HV.out]; exact ho, hb4⟩⟩
        clear ho hb4 HB3 HR3 HC H2 HV HL
        go_wp2_with fail
        go_roundw
        case rel => exact ⟨i + 1, v1, by omega, rfl, by go_num, H5⟩
        case measure => simp [intOf]; omega
      | false =>
        have KH : Aside0 (∀ X : World, Calls Try.prog 19 #[.int .u32 (f i).f1, .int .i64 o] X fun e w' => e = .returned (.bool false) ∧ Drawn0 X w') := ⟨fun X => by have := has_any (f i).f1 o X; rw [hh] at this; exact this⟩
        have HV := Aside0.mk (shownL_no f i o hh)
        clear hh
        go_wp2_with fail
        refine (KH.out _).mono ?_
        rintro e w2 ⟨rfl, nd, rfl⟩
        have H2 : Aside0 ((Kd.int .i64).R 3 ((wr.alloc (.cells #[.int .i32 (f i).f0, .int .u32 (f i).f1] 25)).drewN nd) W.heap.size (fun _ => True) v (shownL f (i + 1) o) ∧ Below W.heap.size W ((wr.alloc (.cells #[.int .i32 (f i).f0, .int .u32 (f i).f1] 25)).drewN nd)) := ⟨⟨by rw [HV.out]; exact Kd.R_drewN (Kd.R_alloc H.out.1 _) _, pw_below_drewN (below_alloc H.out.2 _) nd⟩⟩
        clear KH H c0 c1 HV
        go_wp2_with fail
        go_roundw
        case rel => exact ⟨i + 1, v, by omega, rfl, by go_num, H2⟩
        case measure => simp [intOf]; omega
    · obtain rfl : i = n := by omega
      have d1 : decide (i < i) = false := decide_eq_false (by omega)
      go_wp2_with fail
      go_ret
      exact ⟨v, rfl, Kd.R_lower H.out.1 (by have := HB0.out.2; omega), HB0.out.1.trans (H.out.2.mono (by have := HB0.out.2; omega))⟩
end Go.Proofs.Ytkjjmmgngdpppaa
