/- The references of layer 2: Seal, Open. -/
import Derived.Test.YtadodibnjdeckaaSp
import Derived.Test.YtadodibnjdeckaaWo
import Derived.Test.YtadodibnjdeckaaRq
namespace Go.Proofs.Ytadodibnjdeckaa
open Go.RowKit Go.Proofs.YtadodibnjdeckaaW.PrintWords Go.Proofs.YtadodibnjdeckaaW.PrintLast Go.Proofs.YtadodibnjdeckaaW.PrintMore
set_option linter.unusedVariables false
set_option linter.unusedSimpArgs false

theorem tailL_low {m : Nat} (h : m < 4294967296) : lowN m 4 = tailL m := by
  unfold tailL
  simp only [lowN]
  congr 1
  congr 1
  congr 1
  · omega
  · congr 1; omega
theorem val_tail {l : List Int} (hb : Bytes l) (hl : l.length = 4) {m : Nat} (h : m < 4294967296) : valN l = m ↔ l = tailL m := by
  match l, hl with
  | [a, b, c, d], _ =>
    have ha := hb a (by simp)
    have hb' := hb b (by simp)
    have hc := hb c (by simp)
    have hd := hb d (by simp)
    simp only [valN, tailL, List.cons.injEq, and_true]
    omega
theorem tailL_bytes {m : Nat} (h : m < 4294967296) : Bytes (tailL m) := by rw [← tailL_low h]; exact lowN_bytes _ _
theorem sumN_lt (tb : Nat → Nat) (l : List Int) : sumN tb l < 4294967296 := by unfold sumN; omega

set_option maxRecDepth 100000 in
set_option maxHeartbeats 1000000 in
theorem refseal_any (A : Option Addr) (n c : Nat) (l : List Int) (w : World) (hr0 : (Kd.int .u8).C w A n l) (hc : n ≤ c) (hb : Bytes l) (hn : n ≤ 140737488351232) :
    Calls Try.prog 19 #[.slice A n c] w fun e w' => ∃ v, e = .returned v ∧ (Kd.int .u8).R 5 w' w.heap.size (fun _ => True) v (l ++ tailL (sumN tab l)) ∧ Below w.heap.size w w' := by
  have HR0 := Aside0.mk hr0
  have HBY := Aside0.mk hb
  have hln := hr0.1
  clear hr0 hb
  have hm := sumN_lt tab l
  go_enter Try.func19, Try.ntmps19
  go_wp2_with fail
  refine (refsum_any _ _ _ l _ HR0.out hc HBY.out (by omega)).mono ?_
  rintro e w1 ⟨rfl, hd1⟩
  have HB1 := Aside0.mk hd1.below
  have HC1 := Aside0.mk (Kd.C_below HR0.out hd1.below)
  clear hd1
  generalize hmm : sumN tab l = m at *
  have HM := Lib.hid hmm
  clear hmm
  go_wp2_with fail
  refine (low_any m 4 _ (by omega) (by omega)).mono ?_
  rintro e w2 ⟨v2, rfl, ho2, hb2⟩
  rw [tailL_low hm] at ho2
  have hl4 : (tailL m).length = 4 := rfl
  obtain ⟨Q, d, rfl, hd, hC2⟩ := Kd.R_reads ho2
  rw [hl4] at hC2 hd
  have HB2 := Aside0.mk (below_step HB1.out hb2)
  have HC2 := Aside0.mk hC2
  have HC1' := Aside0.mk (Kd.C_below HC1.out hb2)
  clear ho2 hb2 hC2 HC1 HB1
  rw [hl4]
  go_wp2_with fail
  refine (join_any _ _ _ [l, tailL m] _ (C_of_two (heap_alloc_new _ _) (Kd.C_alloc HC1'.out _) hc (Kd.C_alloc HC2.out _) hd) (Nat.le_refl _) (by simp [tailL]; omega)).mono ?_
  rintro e w3 ⟨v3, rfl, ho3, hb3⟩
  have hB3 := below_step (below_alloc HB2.out _) hb3
  have HB3 := Aside0.mk hB3
  have HO3 := Aside0.mk (Kd.R_lower ho3 (Nat.le_trans HB2.out.size (by simp)))
  clear ho3 hb3 hB3
  go_wp2
  go_ret
  exact ⟨_, rfl, by rw [HM.out]; simpa using HO3.out, HB3.out⟩

set_option maxRecDepth 100000 in
set_option maxHeartbeats 1000000 in
theorem refopen_any (β : Bool) (A : Option Addr) (n c : Nat) (l : List Int) (w : World) (hr0 : (Kd.int .u8).C w A n l) (hc : n ≤ c) (hb : Bytes l) (hn : n ≤ 140737488351232) (hn4 : 4 ≤ n) (hq : decide (l.drop (n - 4) = tailL (sumN tab (l.take (n - 4)))) = β) :
    Calls Try.prog 17 #[.slice A n c] w fun e w' => e = .returned (.bool β) ∧ Below w.heap.size w w' := by
  have HR0 := Aside0.mk hr0
  have hln := hr0.1
  obtain ⟨k, rfl⟩ : ∃ k, n = k + 4 := ⟨n - 4, by omega⟩
  rw [show k + 4 - 4 = k by omega] at *
  obtain ⟨A1, hq1, hC1⟩ := cut_lo (P := Try.prog) .u8 .i64 22 5 1 Try.underlying22 wx_info5 A (k + 4) c k (by omega) hc
  obtain ⟨hq2, hC2⟩ := cut_hi (P := Try.prog) .u8 .i64 22 5 1 Try.underlying22 wx_info5 A (k + 4) c k (by omega) hc
  have HC1 := Aside0.mk (hC1 w l hr0)
  have HC2 := Aside0.mk (hC2 w l hr0)
  rw [show k + 4 - k = 4 by omega] at HC1 hq1
  have hml := sumN_lt tab (l.take k)
  have hdl : (l.drop k).length = 4 := HC1.out.1
  have HBT := Aside0.mk (hb.take k)
  have HBD := Aside0.mk (hb.drop k)
  have hv : ((valN (l.drop k) : Int) == (sumN tab (l.take k) : Int)) = β := by
    rw [← hq, Bool.eq_iff_iff, beq_iff_eq, decide_eq_true_iff, ← val_tail (hb.drop k) hdl hml]
    omega
  have HV := Lib.hid hv
  clear hv hq hr0 hb hC1 hC2
  go_enter Try.func17, Try.ntmps17
  go_wp2_with fail
  try go_frame
  refine region_grown (W := w)
    [fun (w : World) (v : Value) => v = .int .i64 k,
   fun (w : World) (v : Value) => v = .bool true,
   fun (w : World) (v : Value) => v = .bool true,
   fun (w : World) (v : Value) => v = .slice A (k + 4) c,
   fun (w : World) (v : Value) => v = .int .i64 k,
   fun (w : World) (v : Value) => v = .slice A1 4 (c - k),
   fun (w : World) (v : Value) => v = .int .u64 (valN (l.drop k) : Nat),
   fun (w : World) (v : Value) => v = .slice A (k + 4) c,
   fun (w : World) (v : Value) => v = .int .i64 k,
   fun (w : World) (v : Value) => v = .slice A k c,
   fun (w : World) (v : Value) => v = .int .u32 (sumN tab (l.take k) : Nat),
   fun (w : World) (v : Value) => v = .int .u64 (sumN tab (l.take k) : Nat),
   fun (w : World) (v : Value) => v = .bool β,
   fun (w : World) (v : Value) => v = .bool β,
   fun (w : World) (v : Value) => v = .bool β]
    (fun j => if j = 2 then some true else none)
    [(0, some 7), (1, some 8), (2, some 9), (3, some 10), (4, some 11), (5, some 12), (6, some 13), (7, some 14), (8, some 15), (9, some 16), (10, some 17), (11, some 18), (12, some 19), (13, some 20), (14, some 2)]
    [2]
    (by kernel_rfl) (by kernel_rfl) (by kernel_rfl) (by kernel_rfl) ?r2_1g ?r2_1s ⟨?r2_1o0, ?r2_1o1, ?r2_1o2, ?r2_1o3, ?r2_1o4, ?r2_1o5, ?r2_1o6, ?r2_1o7, ?r2_1o8, ?r2_1o9, ?r2_1o10, ?r2_1o11, ?r2_1o12, ?r2_1o13, ?r2_1o14, trivial⟩ ?r2_1e
  case r2_1g =>
    intro j hj w v hv
    simp only [List.mem_cons, List.not_mem_nil, or_false] at hj
    rcases hj with rfl
    · have hv' : v = .bool true := hv; rw [hv']; rfl
  case r2_1s =>
    refine ⟨(fun w w' v hb h => h), (fun w w' v hb h => h), (fun w w' v hb h => h), (fun w w' v hb h => h), (fun w w' v hb h => h), (fun w w' v hb h => h), (fun w w' v hb h => h), (fun w w' v hb h => h), (fun w w' v hb h => h), (fun w w' v hb h => h), (fun w w' v hb h => h), (fun w w' v hb h => h), (fun w w' v hb h => h), (fun w w' v hb h => h), (fun w w' v hb h => h), trivial⟩
  case r2_1o0 =>
    intro vs w hb hV
    rw [if_pos (by kernel_rfl)]
    generalize hρ : rho _ _ _ vs = ρ
    have e3 : ρ (.tmp 3) = .int .i64 k := by rw [← hρ]; kernel_rfl
    clear hρ hV
    refine runs_val (v := .int .i64 k) (w' := w) ?_ ⟨Below.refl _ _, rfl⟩
    go_simp <;> (first | exact IntWalk.u64_in _ (by omega) | exact IntWalk.u32_in _ (by omega) | exact IntWalk.u16_in _ (by omega) | exact IntWalk.u8_in _ (by omega) | exact IntWalk.i64_in _ (by omega) | skip)
  case r2_1o1 =>
    intro vs w hb hV
    rw [if_pos (by kernel_rfl)]
    generalize hρ : rho _ _ _ vs = ρ
    have d7 : (vs 0) = .int .i64 k := hV 0 (by kernel_rfl)
    have e7 : ρ (.tmp 7) = vs 0 := by rw [← hρ]; kernel_rfl
    rw [d7] at e7; clear d7
    have econ : ∀ v : Value, ρ (.const v) = v := fun v => by rw [← hρ]; rfl
    clear hρ hV
    refine runs_val (v := .bool true) (w' := w) ?_ ⟨Below.refl _ _, rfl⟩
    go_simp <;> (first | exact IntWalk.u64_in _ (by omega) | exact IntWalk.u32_in _ (by omega) | exact IntWalk.u16_in _ (by omega) | exact IntWalk.u8_in _ (by omega) | exact IntWalk.i64_in _ (by omega) | skip)
  case r2_1o2 =>
    intro vs w hb hV
    rw [if_pos (by kernel_rfl)]
    generalize hρ : rho _ _ _ vs = ρ
    have d8 : (vs 1) = .bool true := hV 1 (by kernel_rfl)
    have e8 : ρ (.tmp 8) = vs 1 := by rw [← hρ]; kernel_rfl
    clear hρ hV
    refine runs_val (v := vs 1) (w' := w) ?_ ⟨Below.refl _ _, d8⟩
    go_simp
  case r2_1o3 =>
    intro vs w hb hV
    rw [if_pos (by kernel_rfl)]
    generalize hρ : rho _ _ _ vs = ρ
    have e0 : ρ (.tmp 0) = .slice A (k + 4) c := by rw [← hρ]; kernel_rfl
    clear hρ hV
    refine runs_val (v := .slice A (k + 4) c) (w' := w) ?_ ⟨Below.refl _ _, rfl⟩
    go_simp <;> (first | exact IntWalk.u64_in _ (by omega) | exact IntWalk.u32_in _ (by omega) | exact IntWalk.u16_in _ (by omega) | exact IntWalk.u8_in _ (by omega) | exact IntWalk.i64_in _ (by omega) | skip)
  case r2_1o4 =>
    intro vs w hb hV
    rw [if_pos (by kernel_rfl)]
    generalize hρ : rho _ _ _ vs = ρ
    have e3 : ρ (.tmp 3) = .int .i64 k := by rw [← hρ]; kernel_rfl
    clear hρ hV
    refine runs_val (v := .int .i64 k) (w' := w) ?_ ⟨Below.refl _ _, rfl⟩
    go_simp <;> (first | exact IntWalk.u64_in _ (by omega) | exact IntWalk.u32_in _ (by omega) | exact IntWalk.u16_in _ (by omega) | exact IntWalk.u8_in _ (by omega) | exact IntWalk.i64_in _ (by omega) | skip)
  case r2_1o5 =>
    intro vs w hb hV
    rw [if_pos (by kernel_rfl)]
    generalize hρ : rho _ _ _ vs = ρ
    have d10 : (vs 3) = .slice A (k + 4) c := hV 3 (by kernel_rfl)
    have e10 : ρ (.tmp 10) = vs 3 := by rw [← hρ]; kernel_rfl
    rw [d10] at e10; clear d10
    have d11 : (vs 4) = .int .i64 k := hV 4 (by kernel_rfl)
    have e11 : ρ (.tmp 11) = vs 4 := by rw [← hρ]; kernel_rfl
    rw [d11] at e11; clear d11
    clear hρ hV
    refine runs_val (v := .slice A1 4 (c - k)) (w' := w) ?_ ⟨Below.refl _ _, rfl⟩
    go_simp <;> (first | exact IntWalk.u64_in _ (by omega) | exact IntWalk.u32_in _ (by omega) | exact IntWalk.u16_in _ (by omega) | exact IntWalk.u8_in _ (by omega) | exact IntWalk.i64_in _ (by omega) | skip)
  case r2_1o6 =>
    intro vs w hb hV
    rw [if_pos (by kernel_rfl)]
    generalize hρ : rho _ _ _ vs = ρ
    have d12 : (vs 5) = .slice A1 4 (c - k) := hV 5 (by kernel_rfl)
    have e12 : ρ (.tmp 12) = vs 5 := by rw [← hρ]; kernel_rfl
    rw [d12] at e12; clear d12
    have ef23 : ρ (.func 23) = .func (.func 23) #[] #[] := by rw [← hρ]; rfl
    clear hρ hV
    refine runs_call (f := 23) (args := #[.slice A1 4 (c - k)]) (w' := w) ?_ ?_
    · go_simp
    · refine (value_any _ _ _ (l.drop k) _ (Kd.C_below HC1.out hb) (by omega) HBD.out (by omega)).mono ?_
      rintro e w5 ⟨rfl, hd5⟩
      exact ⟨_, rfl, hd5.below, rfl⟩
  case r2_1o7 =>
    intro vs w hb hV
    rw [if_pos (by kernel_rfl)]
    generalize hρ : rho _ _ _ vs = ρ
    have e0 : ρ (.tmp 0) = .slice A (k + 4) c := by rw [← hρ]; kernel_rfl
    clear hρ hV
    refine runs_val (v := .slice A (k + 4) c) (w' := w) ?_ ⟨Below.refl _ _, rfl⟩
    go_simp <;> (first | exact IntWalk.u64_in _ (by omega) | exact IntWalk.u32_in _ (by omega) | exact IntWalk.u16_in _ (by omega) | exact IntWalk.u8_in _ (by omega) | exact IntWalk.i64_in _ (by omega) | skip)
  case r2_1o8 =>
    intro vs w hb hV
    rw [if_pos (by kernel_rfl)]
    generalize hρ : rho _ _ _ vs = ρ
    have e3 : ρ (.tmp 3) = .int .i64 k := by rw [← hρ]; kernel_rfl
    clear hρ hV
    refine runs_val (v := .int .i64 k) (w' := w) ?_ ⟨Below.refl _ _, rfl⟩
    go_simp <;> (first | exact IntWalk.u64_in _ (by omega) | exact IntWalk.u32_in _ (by omega) | exact IntWalk.u16_in _ (by omega) | exact IntWalk.u8_in _ (by omega) | exact IntWalk.i64_in _ (by omega) | skip)
  case r2_1o9 =>
    intro vs w hb hV
    rw [if_pos (by kernel_rfl)]
    generalize hρ : rho _ _ _ vs = ρ
    have d14 : (vs 7) = .slice A (k + 4) c := hV 7 (by kernel_rfl)
    have e14 : ρ (.tmp 14) = vs 7 := by rw [← hρ]; kernel_rfl
    rw [d14] at e14; clear d14
    have d15 : (vs 8) = .int .i64 k := hV 8 (by kernel_rfl)
    have e15 : ρ (.tmp 15) = vs 8 := by rw [← hρ]; kernel_rfl
    rw [d15] at e15; clear d15
    clear hρ hV
    refine runs_val (v := .slice A k c) (w' := w) ?_ ⟨Below.refl _ _, rfl⟩
    go_simp <;> (first | exact IntWalk.u64_in _ (by omega) | exact IntWalk.u32_in _ (by omega) | exact IntWalk.u16_in _ (by omega) | exact IntWalk.u8_in _ (by omega) | exact IntWalk.i64_in _ (by omega) | skip)
  case r2_1o10 =>
    intro vs w hb hV
    rw [if_pos (by kernel_rfl)]
    generalize hρ : rho _ _ _ vs = ρ
    have d16 : (vs 9) = .slice A k c := hV 9 (by kernel_rfl)
    have e16 : ρ (.tmp 16) = vs 9 := by rw [← hρ]; kernel_rfl
    rw [d16] at e16; clear d16
    have ef12 : ρ (.func 12) = .func (.func 12) #[] #[] := by rw [← hρ]; rfl
    clear hρ hV
    refine runs_call (f := 12) (args := #[.slice A k c]) (w' := w) ?_ ?_
    · go_simp
    · refine (refsum_any _ _ _ (l.take k) _ (Kd.C_below HC2.out hb) (by omega) HBT.out (by omega)).mono ?_
      rintro e w5 ⟨rfl, hd5⟩
      exact ⟨_, rfl, hd5.below, rfl⟩
  case r2_1o11 =>
    intro vs w hb hV
    rw [if_pos (by kernel_rfl)]
    generalize hρ : rho _ _ _ vs = ρ
    have d17 : (vs 10) = .int .u32 (sumN tab (l.take k) : Nat) := hV 10 (by kernel_rfl)
    have e17 : ρ (.tmp 17) = vs 10 := by rw [← hρ]; kernel_rfl
    rw [d17] at e17; clear d17
    clear hρ hV
    refine runs_val (v := .int .u64 (sumN tab (l.take k) : Nat)) (w' := w) ?_ ⟨Below.refl _ _, rfl⟩
    go_simp <;> (first | exact IntWalk.u64_in _ (by omega) | exact IntWalk.u32_in _ (by omega) | exact IntWalk.u16_in _ (by omega) | exact IntWalk.u8_in _ (by omega) | exact IntWalk.i64_in _ (by omega) | skip)
  case r2_1o12 =>
    intro vs w hb hV
    rw [if_pos (by kernel_rfl)]
    generalize hρ : rho _ _ _ vs = ρ
    have d13 : (vs 6) = .int .u64 (valN (l.drop k) : Nat) := hV 6 (by kernel_rfl)
    have e13 : ρ (.tmp 13) = vs 6 := by rw [← hρ]; kernel_rfl
    rw [d13] at e13; clear d13
    have d18 : (vs 11) = .int .u64 (sumN tab (l.take k) : Nat) := hV 11 (by kernel_rfl)
    have e18 : ρ (.tmp 18) = vs 11 := by rw [← hρ]; kernel_rfl
    rw [d18] at e18; clear d18
    clear hρ hV
    refine runs_val (v := .bool β) (w' := w) ?_ ⟨Below.refl _ _, rfl⟩
    rw [← HV.out]
    go_simp
  case r2_1o13 =>
    intro vs w hb hV
    rw [if_pos (by kernel_rfl)]
    generalize hρ : rho _ _ _ vs = ρ
    have d9 : (vs 2) = .bool true := hV 2 (by kernel_rfl)
    have e9 : ρ (.tmp 9) = vs 2 := by rw [← hρ]; kernel_rfl
    rw [d9] at e9; clear d9
    have d19 : (vs 12) = .bool β := hV 12 (by kernel_rfl)
    have e19 : ρ (.tmp 19) = vs 12 := by rw [← hρ]; kernel_rfl
    rw [d19] at e19; clear d19
    have econ : ∀ v : Value, ρ (.const v) = v := fun v => by rw [← hρ]; rfl
    clear hρ hV
    refine runs_val (v := .bool β) (w' := w) ?_ ⟨Below.refl _ _, rfl⟩
    go_simp <;> (first | exact IntWalk.u64_in _ (by omega) | exact IntWalk.u32_in _ (by omega) | exact IntWalk.u16_in _ (by omega) | exact IntWalk.u8_in _ (by omega) | exact IntWalk.i64_in _ (by omega) | skip)
  case r2_1o14 =>
    intro vs w hb hV
    rw [if_pos (by kernel_rfl)]
    generalize hρ : rho _ _ _ vs = ρ
    have d20 : (vs 13) = .bool β := hV 13 (by kernel_rfl)
    have e20 : ρ (.tmp 20) = vs 13 := by rw [← hρ]; kernel_rfl
    clear hρ hV
    refine runs_val (v := vs 13) (w' := w) ?_ ⟨Below.refl _ _, d20⟩
    go_simp
  case r2_1e =>
    intro vs W2 hb2 hV
    have d7 : (vs 0) = .int .i64 k := hV 0 (Nat.le_of_ble_eq_true rfl)
    have d8 : (vs 1) = .bool true := hV 1 (Nat.le_of_ble_eq_true rfl)
    have d9 : (vs 2) = .bool true := hV 2 (Nat.le_of_ble_eq_true rfl)
    have d10 : (vs 3) = .slice A (k + 4) c := hV 3 (Nat.le_of_ble_eq_true rfl)
    have d11 : (vs 4) = .int .i64 k := hV 4 (Nat.le_of_ble_eq_true rfl)
    have d12 : (vs 5) = .slice A1 4 (c - k) := hV 5 (Nat.le_of_ble_eq_true rfl)
    have d13 : (vs 6) = .int .u64 (valN (l.drop k) : Nat) := hV 6 (Nat.le_of_ble_eq_true rfl)
    have d14 : (vs 7) = .slice A (k + 4) c := hV 7 (Nat.le_of_ble_eq_true rfl)
    have d15 : (vs 8) = .int .i64 k := hV 8 (Nat.le_of_ble_eq_true rfl)
    have d16 : (vs 9) = .slice A k c := hV 9 (Nat.le_of_ble_eq_true rfl)
    have d17 : (vs 10) = .int .u32 (sumN tab (l.take k) : Nat) := hV 10 (Nat.le_of_ble_eq_true rfl)
    have d18 : (vs 11) = .int .u64 (sumN tab (l.take k) : Nat) := hV 11 (Nat.le_of_ble_eq_true rfl)
    have d19 : (vs 12) = .bool β := hV 12 (Nat.le_of_ble_eq_true rfl)
    have d20 : (vs 13) = .bool β := hV 13 (Nat.le_of_ble_eq_true rfl)
    have d2 : (vs 14) = .bool β := hV 14 (Nat.le_of_ble_eq_true rfl)
    clear hV
    simp only [putAll]
    rw [d7, d8, d9, d10, d11, d12, d13, d14, d15, d16, d17, d18, d19, d20, d2]
    clear d7 d8 d9 d10 d11 d12 d13 d14 d15 d16 d17 d18 d19 d20 d2
    clear vs
    simp only [Act.put, List.setIfInBounds_toArray, List.set_cons_zero, List.set_cons_succ]
    have HB2 := Aside0.mk hb2
    clear hb2
    go_wp2
    go_ret
    exact ⟨rfl, HB2.out⟩
end Go.Proofs.Ytadodibnjdeckaa
