/- MaskTells: the walk. -/
import Derived.Test.YthafmgcflbdjpaaDoorMl
import Derived.Test.YthafmgcflbdjpaaDoorO
import Derived.Test.YthafmgcflbdjpaaDoorA
namespace Go.Proofs.YthafmgcflbdjpaaDoor
open Go.RowKit Go.Shelf Go.Proofs.YthafmgcflbdjpaaDoorW.PrintWords Go.Proofs.YthafmgcflbdjpaaDoorW.PrintLast Go.Proofs.YthafmgcflbdjpaaDoorW.PrintMore
set_option linter.unusedVariables false
set_option linter.unusedSimpArgs false

theorem max_mx5 (k k' : IntKind) (x y : Int) : Builtin.max2 (.int k x) (.int k' y) = pure (.int k (mx x y)) := max2_int k k' x y
theorem min_mn5 (k k' : IntKind) (x y : Int) : Builtin.min2 (.int k x) (.int k' y) = pure (.int k (mn x y)) := min2_int k k' x y
attribute [local go_sem] max_two min_two max_mx5 min_mn5
theorem runs_slice {P : Program} {o : Oper} {ρ : Operand → Value} {w : World} {R : Value → World → Prop} (t : TypeId) (x : Operand) (lo hi mx : Option Operand) (ho : o.op = .slice t x lo hi mx) {e : TypeId} (ht : P.underlying t = some (.slice e)) {v : Value}
    (h : (Instr.slice t (ρ x) (lo.map ρ) (hi.map ρ) (mx.map ρ)).run P w = .ok v w) (hR : R v w) : runs P o ρ w R := by
  have hel : P.elem t = e := by simp [Program.elem, ht]
  refine runs_val (v := v) (w' := w) ?_ hR
  unfold execOp
  rw [ho]
  simp only []
  rw [Sem.run_bind, run_sliceAt_slice w t (ρ x) (lo.map ρ) (hi.map ρ) (mx.map ρ) (by rw [hel]; exact ht), h]
  rfl
theorem bel_trs {w W w' : World} (h : Below w.heap.size w W) (hb : Below W.heap.size W w') : Below w.heap.size w w' := h.trans (hb.mono h.size)
theorem has_bit {a : Nat} (i : Nat) (h : i < 32) : hasN a (i : Int) = a.testBit i := by
  unfold hasN
  rw [decide_eq_true (by omega), Bool.true_and, Int.toNat_natCast]
attribute [local irreducible] withN lessN allN hasN textF pop obsI
set_option maxHeartbeats 8000000 in
set_option maxRecDepth 100000 in
theorem tells_walk (A : Option Addr) (len c : Nat) (l : List Int) (o n s : Int) (w00 : World) (hT : Tabs w00) (hr : (Kd.int .i64).C w00 A len l) (hc : len ≤ c) (hs : 0 ≤ s ∧ s < 256) :
    Calls Tryd.prog 3 #[.slice A len c, .int .i64 o, .int .i64 n, .int .u8 s] w00 fun e w' => e = .returned (.bool true) ∧ Below w00.heap.size w00 w' := by
  obtain rfl : len = l.length := hr.1.symm
  have HB := Aside0.mk (Below.refl w00.heap.size w00)
  have HR := Aside0.mk hr
  have HC := Aside0.mk hc
  obtain ⟨L, hL⟩ : ∃ L, l.take 40 = L := ⟨_, rfl⟩
  have hL40 : L.length ≤ 40 := by rw [← hL]; simp; omega
  obtain ⟨m, hm⟩ : ∃ m, withN 0 L = m := ⟨_, rfl⟩
  have hm32 : m < 4294967296 := by rw [← hm]; exact withN_lt L 0 (by omega)
  have hw32 : (obsI m).length ≤ 32 := by rw [obsI_length]; exact obsF_len m
  obtain ⟨q, hq⟩ : ∃ q : Nat, 1 + s % 4 = (q : Int) := ⟨(1 + s % 4).toNat, by omega⟩
  have hq4 : 0 < q ∧ q ≤ 4 := by omega
  have KF := Aside0.mk (fun (z : World) (h : Below w00.heap.size w00 z) => few_any A c l z (Kd.C_below hr h) hc)
  rw [hL] at KF
  clear hr hc
  go_enter Tryd.func3, Tryd.ntmps3
  go_wp2_with (first
    | (go_at_call 7; (with_reducible refine (awake_any _ (hT.below HB.out)).mono ?_); rintro e w1 ⟨rfl, hb⟩; replace HB := Aside0.mk (bel_trs HB.out hb); clear hb)
    | (go_at_call 8; (with_reducible refine (KF.out _ HB.out).mono ?_); rintro e w2 ⟨A1, c1, rfl, hc1, -, hC1, hb⟩; replace HB := Aside0.mk (bel_trs HB.out hb); have HL := Aside0.mk (And.intro hc1 hC1); clear hb hc1 hC1)
    | (go_at_call 9; (with_reducible refine (of_any A1 c1 L _ (HL.out).2 (HL.out).1 (by omega)).mono ?_); rw [hm]; rintro e w3 ⟨rfl, hb⟩; replace HB := Aside0.mk (bel_trs HB.out hb); replace HL := Aside0.mk (And.intro HL.out.1 (Kd.C_below HL.out.2 hb)); clear hb)
    | (go_at_call 11; (with_reducible refine (word_any A1 c1 L _ (HL.out).2 (HL.out).1 (by omega)).mono ?_); rw [hm]; rintro e w3 ⟨rfl, hb⟩; replace HB := Aside0.mk (bel_trs HB.out hb); replace HL := Aside0.mk (And.intro HL.out.1 (Kd.C_below HL.out.2 hb)); clear hb)
    | (go_at_call 10; (with_reducible refine (list_any m hm32 _).mono ?_); rintro e w3 ⟨A2, c2, rfl, hc2, -, hC2, hb⟩; replace HB := Aside0.mk (bel_trs HB.out hb); replace HL := Aside0.mk (And.intro HL.out.1 (Kd.C_below HL.out.2 hb)); have HW := Aside0.mk (And.intro hc2 hC2); clear hb hc2 hC2)
    | (go_at_call 12; (with_reducible refine (all_any _ _).mono ?_); rintro e w3 ⟨rfl, hb⟩; replace HB := Aside0.mk (bel_trs HB.out hb); replace HL := Aside0.mk (And.intro HL.out.1 (Kd.C_below HL.out.2 hb)); replace HW := Aside0.mk (And.intro HW.out.1 (Kd.C_below HW.out.2 hb)); clear hb))
  go_loopw [29] (fun v29 wr => ∃ i : Nat, i ≤ 32 ∧ v29 = .int .i64 (i : Int) ∧ Aside0 (Below w00.heap.size w00 wr ∧ Below w3.heap.size w3 wr)) (fun v29 _ => (32 - intI v29).toNat)
  case atStart => exact ⟨0, by omega, rfl, ⟨HB.out, Below.refl _ _⟩⟩
  case round =>
    obtain ⟨i, hi, rfl, HB1⟩ := hrel
    by_cases h : i < 32
    · have hx : hasN (allN n) (i : Int) = decide ((i : Int) < n) := by rw [has_bit i h, allN_bit n i h]
      go_wp2_with (go_at_call 13; (with_reducible refine (has_any (allN n) (allN_lt n) (i : Int) _).mono ?_); rw [hx]; rintro e w4 ⟨rfl, hb⟩)
      exact ⟨⟨i + 1, by omega, by congr 1, ⟨bel_trs HB1.out.1 hb, bel_trs HB1.out.2 hb⟩⟩, by simp only [intI]; omega⟩
    · obtain rfl : i = 32 := by omega
      replace HL := Aside0.mk (And.intro HL.out.1 (Kd.C_below HL.out.2 HB1.out.2))
      replace HW := Aside0.mk (And.intro HW.out.1 (Kd.C_below HW.out.2 HB1.out.2))
      replace HB := Aside0.mk HB1.out.1
      clear HB1
      go_wp2_with fail
      obtain ⟨bo, hbo⟩ : ∃ b, decide (o ∈ obsI m) = b := ⟨_, rfl⟩
      obtain ⟨T, hTe⟩ : ∃ T, (obsI m).take q = T := ⟨_, rfl⟩
      have hTl : T.length = min q (obsI m).length := by rw [← hTe]; simp
      have HMN : Aside0 (mn ((obsI m).length : Int) (q : Int) = (T.length : Int)) := ⟨by unfold mn; split <;> omega⟩
      have HK : Aside0 ((obsI m).length ≤ 32 ∧ T.length ≤ (obsI m).length) := ⟨⟨hw32, by omega⟩⟩
      have hTW : Tabs wr := hT.below HB.out
      have KW := Aside0.mk (fun (z : World) (h : Below wr.heap.size wr z) => word_any A1 c1 L z (Kd.C_below HL.out.2 h) HL.out.1 (by omega))
      rw [hm] at KW
      have KH := Aside0.mk (fun (z : World) (h : Below wr.heap.size wr z) => has_any m hm32 o z)
      rw [has_in, hbo] at KH
      have KI := Aside0.mk (fun (z : World) (h : Below wr.heap.size wr z) => in_any A2 c2 (obsI m) o z (Kd.C_below HW.out.2 h) HW.out.1 (by omega))
      rw [hbo] at KI
      have KC := Aside0.mk (fun (z : World) (h : Below wr.heap.size wr z) => count_any m hm32 z)
      rw [pop_len] at KC
      have KA := Aside0.mk (fun (z : World) (h : Below wr.heap.size wr z) => told_most_any m hm32 99 (by omega) z (hTW.below h))
      rw [List.take_of_length_le (by omega)] at KA
      have KT := Aside0.mk (fun (z : World) (h : Below wr.heap.size wr z) => told_most_any m hm32 q (by omega) z (hTW.below h))
      rw [hTe] at KT
      have KX := Aside0.mk (fun (z : World) (h : Below wr.heap.size wr z) => text_any m hm32 z (hTW.below h).1 (hTW.below h).2)
      have KY := Aside0.mk (fun (z : World) (h : Below wr.heap.size wr z) => text05_any m hm32 z)
      have HX := Aside0.mk (cut_hi (P := Tryd.prog) .i64 .i64 22 3 8 Tryd.underlying22 infoI A2 (obsI m).length c2 T.length (by omega) HW.out.1)
      have HXT : Aside0 ((obsI m).take T.length = T) := ⟨by rw [hTl, ← List.take_eq_take_min, hTe]⟩
      clear hbo hTe hTl
      refine region_grown (W := wr)
        [fun (w : World) (v : Value) => v = .int .u32 (m : Int),
         fun (w : World) (v : Value) => v = .slice A1 L.length c1,
         fun (w : World) (v : Value) => v = .int .u32 (m : Int),
         fun (w : World) (v : Value) => v = .bool true,
         fun (w : World) (v : Value) => v = .bool true,
         fun (w : World) (v : Value) => v = .int .u32 (m : Int),
         fun (w : World) (v : Value) => v = .int .i64 o,
         fun (w : World) (v : Value) => v = .bool bo,
         fun (w : World) (v : Value) => v = .slice A2 (obsI m).length c2,
         fun (w : World) (v : Value) => v = .int .i64 o,
         fun (w : World) (v : Value) => v = .bool bo,
         fun (w : World) (v : Value) => v = .bool true,
         fun (w : World) (v : Value) => v = .bool true,
         fun (w : World) (v : Value) => v = .bool true,
         fun (w : World) (v : Value) => v = .int .u32 (m : Int),
         fun (w : World) (v : Value) => v = .int .i64 ((obsI m).length : Int),
         fun (w : World) (v : Value) => v = .slice A2 (obsI m).length c2,
         fun (w : World) (v : Value) => v = .int .i64 ((obsI m).length : Int),
         fun (w : World) (v : Value) => v = .bool true,
         fun (w : World) (v : Value) => v = .bool true,
         fun (w : World) (v : Value) => v = .bool true,
         fun (w : World) (v : Value) => v = .int .u32 (m : Int),
         fun (w : World) (v : Value) => ∃ A c, v = .slice A (obsI m).length c ∧ (obsI m).length ≤ c ∧ (Kd.int .i64).C w A (obsI m).length (obsI m),
         fun (w : World) (v : Value) => v = .slice A2 (obsI m).length c2,
         fun (w : World) (v : Value) => v = .bool true,
         fun (w : World) (v : Value) => v = .bool true,
         fun (w : World) (v : Value) => v = .bool true,
         fun (w : World) (v : Value) => v = .int .u32 (m : Int),
         fun (w : World) (v : Value) => v = .int .i64 (q : Int),
         fun (w : World) (v : Value) => ∃ A c, v = .slice A T.length c ∧ T.length ≤ c ∧ (Kd.int .i64).C w A T.length T,
         fun (w : World) (v : Value) => v = .slice A2 (obsI m).length c2,
         fun (w : World) (v : Value) => v = .slice A2 (obsI m).length c2,
         fun (w : World) (v : Value) => v = .int .i64 ((obsI m).length : Int),
         fun (w : World) (v : Value) => v = .int .i64 (q : Int),
         fun (w : World) (v : Value) => v = .int .i64 (T.length : Int),
         fun (w : World) (v : Value) => v = .slice A2 T.length c2,
         fun (w : World) (v : Value) => v = .bool true,
         fun (w : World) (v : Value) => v = .bool true,
         fun (w : World) (v : Value) => v = .bool true,
         fun (w : World) (v : Value) => v = .int .u32 (m : Int),
         fun (w : World) (v : Value) => v = .string (textF m),
         fun (w : World) (v : Value) => v = .int .u32 (m : Int),
         fun (w : World) (v : Value) => v = .string (textF m),
         fun (w : World) (v : Value) => v = .bool true,
         fun (w : World) (v : Value) => v = .bool true,
         fun (w : World) (v : Value) => v = .bool true]
        (fun j => if j = 4 then some true else if j = 13 then some true else if j = 20 then some true else if j = 26 then some true else if j = 38 then some true else none)
        [(0, some 40), (1, some 41), (2, some 42), (3, some 43), (4, some 44), (5, some 45), (6, some 46), (7, some 47), (8, some 48), (9, some 49), (10, some 50), (11, some 51), (12, some 52), (13, some 53), (14, some 54), (15, some 55), (16, some 56), (17, some 57), (18, some 58), (19, some 59), (20, some 60), (21, some 61), (22, some 62), (23, some 63), (24, some 64), (25, some 65), (26, some 66), (27, some 67), (28, some 68), (29, some 69), (30, some 70), (31, some 71), (32, some 72), (33, some 73), (34, some 74), (35, some 75), (36, some 76), (37, some 77), (38, some 78), (39, some 79), (40, some 80), (41, some 81), (42, some 82), (43, some 83), (44, some 84), (45, some 8)]
        [4, 13, 20, 26, 38]
        (by kernel_rfl) (by kernel_rfl) (by kernel_rfl) (by kernel_rfl) ?r14_1g ?r14_1s ⟨?r14_1o0, ?r14_1o1, ?r14_1o2, ?r14_1o3, ?r14_1o4, ?r14_1o5, ?r14_1o6, ?r14_1o7, ?r14_1o8, ?r14_1o9, ?r14_1o10, ?r14_1o11, ?r14_1o12, ?r14_1o13, ?r14_1o14, ?r14_1o15, ?r14_1o16, ?r14_1o17, ?r14_1o18, ?r14_1o19, ?r14_1o20, ?r14_1o21, ?r14_1o22, ?r14_1o23, ?r14_1o24, ?r14_1o25, ?r14_1o26, ?r14_1o27, ?r14_1o28, ?r14_1o29, ?r14_1o30, ?r14_1o31, ?r14_1o32, ?r14_1o33, ?r14_1o34, ?r14_1o35, ?r14_1o36, ?r14_1o37, ?r14_1o38, ?r14_1o39, ?r14_1o40, ?r14_1o41, ?r14_1o42, ?r14_1o43, ?r14_1o44, ?r14_1o45, trivial⟩ ?r14_1e
      case r14_1g =>
        intro j hj w v hv
        simp only [List.mem_cons, List.not_mem_nil, or_false] at hj
        rcases hj with rfl | rfl | rfl | rfl | rfl
        · have hv' : v = .bool true := hv; rw [hv']; rfl
        · have hv' : v = .bool true := hv; rw [hv']; rfl
        · have hv' : v = .bool true := hv; rw [hv']; rfl
        · have hv' : v = .bool true := hv; rw [hv']; rfl
        · have hv' : v = .bool true := hv; rw [hv']; rfl
      case r14_1s =>
        refine ⟨(fun w w' v hb h => h), (fun w w' v hb h => h), (fun w w' v hb h => h), (fun w w' v hb h => h), (fun w w' v hb h => h), (fun w w' v hb h => h), (fun w w' v hb h => h), (fun w w' v hb h => h), (fun w w' v hb h => h), (fun w w' v hb h => h), (fun w w' v hb h => h), (fun w w' v hb h => h), (fun w w' v hb h => h), (fun w w' v hb h => h), (fun w w' v hb h => h), (fun w w' v hb h => h), (fun w w' v hb h => h), (fun w w' v hb h => h), (fun w w' v hb h => h), (fun w w' v hb h => h), (fun w w' v hb h => h), (fun w w' v hb h => h), (fun w w' v hb h => let ⟨A, c, h1, h2, h3⟩ := h; ⟨A, c, h1, h2, Kd.C_below h3 hb⟩), (fun w w' v hb h => h), (fun w w' v hb h => h), (fun w w' v hb h => h), (fun w w' v hb h => h), (fun w w' v hb h => h), (fun w w' v hb h => h), (fun w w' v hb h => let ⟨A, c, h1, h2, h3⟩ := h; ⟨A, c, h1, h2, Kd.C_below h3 hb⟩), (fun w w' v hb h => h), (fun w w' v hb h => h), (fun w w' v hb h => h), (fun w w' v hb h => h), (fun w w' v hb h => h), (fun w w' v hb h => h), (fun w w' v hb h => h), (fun w w' v hb h => h), (fun w w' v hb h => h), (fun w w' v hb h => h), (fun w w' v hb h => h), (fun w w' v hb h => h), (fun w w' v hb h => h), (fun w w' v hb h => h), (fun w w' v hb h => h), (fun w w' v hb h => h), trivial⟩
      case r14_1o0 =>
        intro vs w hb hV
        rw [if_pos (by first | kernel_rfl | rfl)]
        generalize hρ : rho _ _ _ vs = ρ
        have e9 : ρ (.tmp 9) = .int .u32 (m : Int) := by rw [← hρ]; kernel_rfl
        clear hρ hV
        refine runs_val (v := .int .u32 (m : Int)) (w' := w) ?_ ⟨Below.refl _ _, rfl⟩
        go_simp <;> (first | exact IntWalk.u64_in _ (by omega) | exact IntWalk.u32_in _ (by omega) | exact IntWalk.u16_in _ (by omega) | exact IntWalk.u8_in _ (by omega) | exact IntWalk.i64_in _ (by omega) | skip)
      case r14_1o1 =>
        intro vs w hb hV
        rw [if_pos (by first | kernel_rfl | rfl)]
        generalize hρ : rho _ _ _ vs = ρ
        have e0 : ρ (.tmp 0) = .slice A1 L.length c1 := by rw [← hρ]; kernel_rfl
        clear hρ hV
        refine runs_val (v := .slice A1 L.length c1) (w' := w) ?_ ⟨Below.refl _ _, rfl⟩
        go_simp <;> (first | exact IntWalk.u64_in _ (by omega) | exact IntWalk.u32_in _ (by omega) | exact IntWalk.u16_in _ (by omega) | exact IntWalk.u8_in _ (by omega) | exact IntWalk.i64_in _ (by omega) | skip)
      case r14_1o2 =>
        intro vs w hb hV
        rw [if_pos (by first | kernel_rfl | rfl)]
        generalize hρ : rho _ _ _ vs = ρ
        have d41 : (vs 1) = .slice A1 L.length c1 := hV 1 (by first | kernel_rfl | rfl)
        have e41 : ρ (.tmp 41) = vs 1 := by rw [← hρ]; kernel_rfl
        rw [d41] at e41; clear d41
        have ef11 : ρ (.func 11) = .func (.func 11) #[] #[] := by rw [← hρ]; rfl
        clear hρ hV
        refine runs_call (f := 11) (args := #[.slice A1 L.length c1]) (w' := w) ?_ ?_
        · go_simp
        · refine (KW.out w hb).mono ?_
          rintro e w5 ⟨rfl, hb5⟩
          exact ⟨_, rfl, hb5, rfl⟩
      case r14_1o3 =>
        intro vs w hb hV
        rw [if_pos (by first | kernel_rfl | rfl)]
        generalize hρ : rho _ _ _ vs = ρ
        have d40 : (vs 0) = .int .u32 (m : Int) := hV 0 (by first | kernel_rfl | rfl)
        have e40 : ρ (.tmp 40) = vs 0 := by rw [← hρ]; kernel_rfl
        rw [d40] at e40; clear d40
        have d42 : (vs 2) = .int .u32 (m : Int) := hV 2 (by first | kernel_rfl | rfl)
        have e42 : ρ (.tmp 42) = vs 2 := by rw [← hρ]; kernel_rfl
        rw [d42] at e42; clear d42
        clear hρ hV
        refine runs_val (v := .bool true) (w' := w) ?_ ⟨Below.refl _ _, rfl⟩
        go_simp <;> (first | exact IntWalk.u64_in _ (by omega) | exact IntWalk.u32_in _ (by omega) | exact IntWalk.u16_in _ (by omega) | exact IntWalk.u8_in _ (by omega) | exact IntWalk.i64_in _ (by omega) | skip)
      case r14_1o4 =>
        intro vs w hb hV
        rw [if_pos (by first | kernel_rfl | rfl)]
        generalize hρ : rho _ _ _ vs = ρ
        have d43 : (vs 3) = .bool true := hV 3 (by first | kernel_rfl | rfl)
        have e43 : ρ (.tmp 43) = vs 3 := by rw [← hρ]; kernel_rfl
        clear hρ hV
        refine runs_val (v := vs 3) (w' := w) ?_ ⟨Below.refl _ _, d43⟩
        go_simp
      case r14_1o5 =>
        intro vs w hb hV
        rw [if_pos (by first | kernel_rfl | rfl)]
        generalize hρ : rho _ _ _ vs = ρ
        have e9 : ρ (.tmp 9) = .int .u32 (m : Int) := by rw [← hρ]; kernel_rfl
        clear hρ hV
        refine runs_val (v := .int .u32 (m : Int)) (w' := w) ?_ ⟨Below.refl _ _, rfl⟩
        go_simp <;> (first | exact IntWalk.u64_in _ (by omega) | exact IntWalk.u32_in _ (by omega) | exact IntWalk.u16_in _ (by omega) | exact IntWalk.u8_in _ (by omega) | exact IntWalk.i64_in _ (by omega) | skip)
      case r14_1o6 =>
        intro vs w hb hV
        rw [if_pos (by first | kernel_rfl | rfl)]
        generalize hρ : rho _ _ _ vs = ρ
        have e1 : ρ (.tmp 1) = .int .i64 o := by rw [← hρ]; kernel_rfl
        clear hρ hV
        refine runs_val (v := .int .i64 o) (w' := w) ?_ ⟨Below.refl _ _, rfl⟩
        go_simp <;> (first | exact IntWalk.u64_in _ (by omega) | exact IntWalk.u32_in _ (by omega) | exact IntWalk.u16_in _ (by omega) | exact IntWalk.u8_in _ (by omega) | exact IntWalk.i64_in _ (by omega) | skip)
      case r14_1o7 =>
        intro vs w hb hV
        rw [if_pos (by first | kernel_rfl | rfl)]
        generalize hρ : rho _ _ _ vs = ρ
        have d45 : (vs 5) = .int .u32 (m : Int) := hV 5 (by first | kernel_rfl | rfl)
        have e45 : ρ (.tmp 45) = vs 5 := by rw [← hρ]; kernel_rfl
        rw [d45] at e45; clear d45
        have d46 : (vs 6) = .int .i64 o := hV 6 (by first | kernel_rfl | rfl)
        have e46 : ρ (.tmp 46) = vs 6 := by rw [← hρ]; kernel_rfl
        rw [d46] at e46; clear d46
        have ef13 : ρ (.func 13) = .func (.func 13) #[] #[] := by rw [← hρ]; rfl
        clear hρ hV
        refine runs_call (f := 13) (args := #[.int .u32 (m : Int), .int .i64 o]) (w' := w) ?_ ?_
        · go_simp
        · refine (KH.out w hb).mono ?_
          rintro e w5 ⟨rfl, hb5⟩
          exact ⟨_, rfl, hb5, rfl⟩
      case r14_1o8 =>
        intro vs w hb hV
        rw [if_pos (by first | kernel_rfl | rfl)]
        generalize hρ : rho _ _ _ vs = ρ
        have e10 : ρ (.tmp 10) = .slice A2 (obsI m).length c2 := by rw [← hρ]; kernel_rfl
        clear hρ hV
        refine runs_val (v := .slice A2 (obsI m).length c2) (w' := w) ?_ ⟨Below.refl _ _, rfl⟩
        go_simp <;> (first | exact IntWalk.u64_in _ (by omega) | exact IntWalk.u32_in _ (by omega) | exact IntWalk.u16_in _ (by omega) | exact IntWalk.u8_in _ (by omega) | exact IntWalk.i64_in _ (by omega) | skip)
      case r14_1o9 =>
        intro vs w hb hV
        rw [if_pos (by first | kernel_rfl | rfl)]
        generalize hρ : rho _ _ _ vs = ρ
        have e1 : ρ (.tmp 1) = .int .i64 o := by rw [← hρ]; kernel_rfl
        clear hρ hV
        refine runs_val (v := .int .i64 o) (w' := w) ?_ ⟨Below.refl _ _, rfl⟩
        go_simp <;> (first | exact IntWalk.u64_in _ (by omega) | exact IntWalk.u32_in _ (by omega) | exact IntWalk.u16_in _ (by omega) | exact IntWalk.u8_in _ (by omega) | exact IntWalk.i64_in _ (by omega) | skip)
      case r14_1o10 =>
        intro vs w hb hV
        rw [if_pos (by first | kernel_rfl | rfl)]
        generalize hρ : rho _ _ _ vs = ρ
        have d48 : (vs 8) = .slice A2 (obsI m).length c2 := hV 8 (by first | kernel_rfl | rfl)
        have e48 : ρ (.tmp 48) = vs 8 := by rw [← hρ]; kernel_rfl
        rw [d48] at e48; clear d48
        have d49 : (vs 9) = .int .i64 o := hV 9 (by first | kernel_rfl | rfl)
        have e49 : ρ (.tmp 49) = vs 9 := by rw [← hρ]; kernel_rfl
        rw [d49] at e49; clear d49
        have ef14 : ρ (.func 14) = .func (.func 14) #[] #[] := by rw [← hρ]; rfl
        clear hρ hV
        refine runs_call (f := 14) (args := #[.slice A2 (obsI m).length c2, .int .i64 o]) (w' := w) ?_ ?_
        · go_simp
        · refine (KI.out w hb).mono ?_
          rintro e w5 ⟨rfl, hb5⟩
          exact ⟨_, rfl, hb5, rfl⟩
      case r14_1o11 =>
        intro vs w hb hV
        rw [if_pos (by first | kernel_rfl | rfl)]
        generalize hρ : rho _ _ _ vs = ρ
        have d47 : (vs 7) = .bool bo := hV 7 (by first | kernel_rfl | rfl)
        have e47 : ρ (.tmp 47) = vs 7 := by rw [← hρ]; kernel_rfl
        rw [d47] at e47; clear d47
        have d50 : (vs 10) = .bool bo := hV 10 (by first | kernel_rfl | rfl)
        have e50 : ρ (.tmp 50) = vs 10 := by rw [← hρ]; kernel_rfl
        rw [d50] at e50; clear d50
        clear hρ hV
        refine runs_val (v := .bool true) (w' := w) ?_ ⟨Below.refl _ _, rfl⟩
        go_simp <;> (first | exact IntWalk.u64_in _ (by omega) | exact IntWalk.u32_in _ (by omega) | exact IntWalk.u16_in _ (by omega) | exact IntWalk.u8_in _ (by omega) | exact IntWalk.i64_in _ (by omega) | skip)
      case r14_1o12 =>
        intro vs w hb hV
        rw [if_pos (by first | kernel_rfl | rfl)]
        generalize hρ : rho _ _ _ vs = ρ
        have d44 : (vs 4) = .bool true := hV 4 (by first | kernel_rfl | rfl)
        have e44 : ρ (.tmp 44) = vs 4 := by rw [← hρ]; kernel_rfl
        rw [d44] at e44; clear d44
        have d51 : (vs 11) = .bool true := hV 11 (by first | kernel_rfl | rfl)
        have e51 : ρ (.tmp 51) = vs 11 := by rw [← hρ]; kernel_rfl
        rw [d51] at e51; clear d51
        have econ : ∀ v : Value, ρ (.const v) = v := fun v => by rw [← hρ]; rfl
        clear hρ hV
        refine runs_val (v := .bool true) (w' := w) ?_ ⟨Below.refl _ _, rfl⟩
        go_simp <;> (first | exact IntWalk.u64_in _ (by omega) | exact IntWalk.u32_in _ (by omega) | exact IntWalk.u16_in _ (by omega) | exact IntWalk.u8_in _ (by omega) | exact IntWalk.i64_in _ (by omega) | skip)
      case r14_1o13 =>
        intro vs w hb hV
        rw [if_pos (by first | kernel_rfl | rfl)]
        generalize hρ : rho _ _ _ vs = ρ
        have d52 : (vs 12) = .bool true := hV 12 (by first | kernel_rfl | rfl)
        have e52 : ρ (.tmp 52) = vs 12 := by rw [← hρ]; kernel_rfl
        clear hρ hV
        refine runs_val (v := vs 12) (w' := w) ?_ ⟨Below.refl _ _, d52⟩
        go_simp
      case r14_1o14 =>
        intro vs w hb hV
        rw [if_pos (by first | kernel_rfl | rfl)]
        generalize hρ : rho _ _ _ vs = ρ
        have e9 : ρ (.tmp 9) = .int .u32 (m : Int) := by rw [← hρ]; kernel_rfl
        clear hρ hV
        refine runs_val (v := .int .u32 (m : Int)) (w' := w) ?_ ⟨Below.refl _ _, rfl⟩
        go_simp <;> (first | exact IntWalk.u64_in _ (by omega) | exact IntWalk.u32_in _ (by omega) | exact IntWalk.u16_in _ (by omega) | exact IntWalk.u8_in _ (by omega) | exact IntWalk.i64_in _ (by omega) | skip)
      case r14_1o15 =>
        intro vs w hb hV
        rw [if_pos (by first | kernel_rfl | rfl)]
        generalize hρ : rho _ _ _ vs = ρ
        have d54 : (vs 14) = .int .u32 (m : Int) := hV 14 (by first | kernel_rfl | rfl)
        have e54 : ρ (.tmp 54) = vs 14 := by rw [← hρ]; kernel_rfl
        rw [d54] at e54; clear d54
        have ef15 : ρ (.func 15) = .func (.func 15) #[] #[] := by rw [← hρ]; rfl
        clear hρ hV
        refine runs_call (f := 15) (args := #[.int .u32 (m : Int)]) (w' := w) ?_ ?_
        · go_simp
        · refine (KC.out w hb).mono ?_
          rintro e w5 ⟨rfl, hb5⟩
          exact ⟨_, rfl, hb5, rfl⟩
      case r14_1o16 =>
        intro vs w hb hV
        rw [if_pos (by first | kernel_rfl | rfl)]
        generalize hρ : rho _ _ _ vs = ρ
        have e10 : ρ (.tmp 10) = .slice A2 (obsI m).length c2 := by rw [← hρ]; kernel_rfl
        clear hρ hV
        refine runs_val (v := .slice A2 (obsI m).length c2) (w' := w) ?_ ⟨Below.refl _ _, rfl⟩
        go_simp <;> (first | exact IntWalk.u64_in _ (by omega) | exact IntWalk.u32_in _ (by omega) | exact IntWalk.u16_in _ (by omega) | exact IntWalk.u8_in _ (by omega) | exact IntWalk.i64_in _ (by omega) | skip)
      case r14_1o17 =>
        intro vs w hb hV
        rw [if_pos (by first | kernel_rfl | rfl)]
        generalize hρ : rho _ _ _ vs = ρ
        have d56 : (vs 16) = .slice A2 (obsI m).length c2 := hV 16 (by first | kernel_rfl | rfl)
        have e56 : ρ (.tmp 56) = vs 16 := by rw [← hρ]; kernel_rfl
        rw [d56] at e56; clear d56
        clear hρ hV
        refine runs_val (v := .int .i64 ((obsI m).length : Int)) (w' := w) ?_ ⟨Below.refl _ _, rfl⟩
        go_simp <;> (first | exact IntWalk.u64_in _ (by omega) | exact IntWalk.u32_in _ (by omega) | exact IntWalk.u16_in _ (by omega) | exact IntWalk.u8_in _ (by omega) | exact IntWalk.i64_in _ (by omega) | skip)
      case r14_1o18 =>
        intro vs w hb hV
        rw [if_pos (by first | kernel_rfl | rfl)]
        generalize hρ : rho _ _ _ vs = ρ
        have d55 : (vs 15) = .int .i64 ((obsI m).length : Int) := hV 15 (by first | kernel_rfl | rfl)
        have e55 : ρ (.tmp 55) = vs 15 := by rw [← hρ]; kernel_rfl
        rw [d55] at e55; clear d55
        have d57 : (vs 17) = .int .i64 ((obsI m).length : Int) := hV 17 (by first | kernel_rfl | rfl)
        have e57 : ρ (.tmp 57) = vs 17 := by rw [← hρ]; kernel_rfl
        rw [d57] at e57; clear d57
        clear hρ hV
        refine runs_val (v := .bool true) (w' := w) ?_ ⟨Below.refl _ _, rfl⟩
        go_simp <;> (first | exact IntWalk.u64_in _ (by omega) | exact IntWalk.u32_in _ (by omega) | exact IntWalk.u16_in _ (by omega) | exact IntWalk.u8_in _ (by omega) | exact IntWalk.i64_in _ (by omega) | skip)
      case r14_1o19 =>
        intro vs w hb hV
        rw [if_pos (by first | kernel_rfl | rfl)]
        generalize hρ : rho _ _ _ vs = ρ
        have d53 : (vs 13) = .bool true := hV 13 (by first | kernel_rfl | rfl)
        have e53 : ρ (.tmp 53) = vs 13 := by rw [← hρ]; kernel_rfl
        rw [d53] at e53; clear d53
        have d58 : (vs 18) = .bool true := hV 18 (by first | kernel_rfl | rfl)
        have e58 : ρ (.tmp 58) = vs 18 := by rw [← hρ]; kernel_rfl
        rw [d58] at e58; clear d58
        have econ : ∀ v : Value, ρ (.const v) = v := fun v => by rw [← hρ]; rfl
        clear hρ hV
        refine runs_val (v := .bool true) (w' := w) ?_ ⟨Below.refl _ _, rfl⟩
        go_simp <;> (first | exact IntWalk.u64_in _ (by omega) | exact IntWalk.u32_in _ (by omega) | exact IntWalk.u16_in _ (by omega) | exact IntWalk.u8_in _ (by omega) | exact IntWalk.i64_in _ (by omega) | skip)
      case r14_1o20 =>
        intro vs w hb hV
        rw [if_pos (by first | kernel_rfl | rfl)]
        generalize hρ : rho _ _ _ vs = ρ
        have d59 : (vs 19) = .bool true := hV 19 (by first | kernel_rfl | rfl)
        have e59 : ρ (.tmp 59) = vs 19 := by rw [← hρ]; kernel_rfl
        clear hρ hV
        refine runs_val (v := vs 19) (w' := w) ?_ ⟨Below.refl _ _, d59⟩
        go_simp
      case r14_1o21 =>
        intro vs w hb hV
        rw [if_pos (by first | kernel_rfl | rfl)]
        generalize hρ : rho _ _ _ vs = ρ
        have e9 : ρ (.tmp 9) = .int .u32 (m : Int) := by rw [← hρ]; kernel_rfl
        clear hρ hV
        refine runs_val (v := .int .u32 (m : Int)) (w' := w) ?_ ⟨Below.refl _ _, rfl⟩
        go_simp <;> (first | exact IntWalk.u64_in _ (by omega) | exact IntWalk.u32_in _ (by omega) | exact IntWalk.u16_in _ (by omega) | exact IntWalk.u8_in _ (by omega) | exact IntWalk.i64_in _ (by omega) | skip)
      case r14_1o22 =>
        intro vs w hb hV
        rw [if_pos (by first | kernel_rfl | rfl)]
        generalize hρ : rho _ _ _ vs = ρ
        have d61 : (vs 21) = .int .u32 (m : Int) := hV 21 (by first | kernel_rfl | rfl)
        have e61 : ρ (.tmp 61) = vs 21 := by rw [← hρ]; kernel_rfl
        rw [d61] at e61; clear d61
        have ef17 : ρ (.func 17) = .func (.func 17) #[] #[] := by rw [← hρ]; rfl
        have econ : ∀ v : Value, ρ (.const v) = v := fun v => by rw [← hρ]; rfl
        clear hρ hV
        refine runs_call (f := 17) (args := #[.int .u32 (m : Int), .int .i64 99]) (w' := w) ?_ ?_
        · go_simp
        · refine (KA.out w hb).mono ?_
          rintro e w5 ⟨A9, c9, rfl, hle9, hC9, hb5⟩
          exact ⟨_, rfl, hb5, _, _, rfl, hle9, hC9⟩
      case r14_1o23 =>
        intro vs w hb hV
        rw [if_pos (by first | kernel_rfl | rfl)]
        generalize hρ : rho _ _ _ vs = ρ
        have e10 : ρ (.tmp 10) = .slice A2 (obsI m).length c2 := by rw [← hρ]; kernel_rfl
        clear hρ hV
        refine runs_val (v := .slice A2 (obsI m).length c2) (w' := w) ?_ ⟨Below.refl _ _, rfl⟩
        go_simp <;> (first | exact IntWalk.u64_in _ (by omega) | exact IntWalk.u32_in _ (by omega) | exact IntWalk.u16_in _ (by omega) | exact IntWalk.u8_in _ (by omega) | exact IntWalk.i64_in _ (by omega) | skip)
      case r14_1o24 =>
        intro vs w hb hV
        rw [if_pos (by first | kernel_rfl | rfl)]
        generalize hρ : rho _ _ _ vs = ρ
        have d62 : (fun (w : World) (v : Value) => ∃ A c, v = .slice A (obsI m).length c ∧ (obsI m).length ≤ c ∧ (Kd.int .i64).C w A (obsI m).length (obsI m)) w (vs 22) := hV 22 (by first | kernel_rfl | rfl)
        have e62 : ρ (.tmp 62) = vs 22 := by rw [← hρ]; kernel_rfl
        obtain ⟨A3, c3, h3, hc3, hC3⟩ := d62
        have d63 : (vs 23) = .slice A2 (obsI m).length c2 := hV 23 (by first | kernel_rfl | rfl)
        have e63 : ρ (.tmp 63) = vs 23 := by rw [← hρ]; kernel_rfl
        rw [d63] at e63; clear d63
        have ef16 : ρ (.func 16) = .func (.func 16) #[] #[] := by rw [← hρ]; rfl
        clear hρ hV
        rw [h3] at e62
        refine runs_call (f := 16) (args := #[.slice A3 (obsI m).length c3, .slice A2 (obsI m).length c2]) (w' := w) ?_ ?_
        · go_simp
        · have hsm := same_any A3 A2 c3 c2 (obsI m) (obsI m) w hC3 hc3 (Kd.C_below HW.out.2 hb) HW.out.1 (by have := HK.out; omega)
          rw [decide_eq_true rfl] at hsm
          refine hsm.mono ?_
          rintro e w5 ⟨rfl, hb5⟩
          exact ⟨_, rfl, hb5, rfl⟩
      case r14_1o25 =>
        intro vs w hb hV
        rw [if_pos (by first | kernel_rfl | rfl)]
        generalize hρ : rho _ _ _ vs = ρ
        have d60 : (vs 20) = .bool true := hV 20 (by first | kernel_rfl | rfl)
        have e60 : ρ (.tmp 60) = vs 20 := by rw [← hρ]; kernel_rfl
        rw [d60] at e60; clear d60
        have d64 : (vs 24) = .bool true := hV 24 (by first | kernel_rfl | rfl)
        have e64 : ρ (.tmp 64) = vs 24 := by rw [← hρ]; kernel_rfl
        rw [d64] at e64; clear d64
        have econ : ∀ v : Value, ρ (.const v) = v := fun v => by rw [← hρ]; rfl
        clear hρ hV
        refine runs_val (v := .bool true) (w' := w) ?_ ⟨Below.refl _ _, rfl⟩
        go_simp <;> (first | exact IntWalk.u64_in _ (by omega) | exact IntWalk.u32_in _ (by omega) | exact IntWalk.u16_in _ (by omega) | exact IntWalk.u8_in _ (by omega) | exact IntWalk.i64_in _ (by omega) | skip)
      case r14_1o26 =>
        intro vs w hb hV
        rw [if_pos (by first | kernel_rfl | rfl)]
        generalize hρ : rho _ _ _ vs = ρ
        have d65 : (vs 25) = .bool true := hV 25 (by first | kernel_rfl | rfl)
        have e65 : ρ (.tmp 65) = vs 25 := by rw [← hρ]; kernel_rfl
        clear hρ hV
        refine runs_val (v := vs 25) (w' := w) ?_ ⟨Below.refl _ _, d65⟩
        go_simp
      case r14_1o27 =>
        intro vs w hb hV
        rw [if_pos (by first | kernel_rfl | rfl)]
        generalize hρ : rho _ _ _ vs = ρ
        have e9 : ρ (.tmp 9) = .int .u32 (m : Int) := by rw [← hρ]; kernel_rfl
        clear hρ hV
        refine runs_val (v := .int .u32 (m : Int)) (w' := w) ?_ ⟨Below.refl _ _, rfl⟩
        go_simp <;> (first | exact IntWalk.u64_in _ (by omega) | exact IntWalk.u32_in _ (by omega) | exact IntWalk.u16_in _ (by omega) | exact IntWalk.u8_in _ (by omega) | exact IntWalk.i64_in _ (by omega) | skip)
      case r14_1o28 =>
        intro vs w hb hV
        rw [if_pos (by first | kernel_rfl | rfl)]
        generalize hρ : rho _ _ _ vs = ρ
        have e11 : ρ (.tmp 11) = .int .i64 (q : Int) := by rw [← hρ]; kernel_rfl
        clear hρ hV
        refine runs_val (v := .int .i64 (q : Int)) (w' := w) ?_ ⟨Below.refl _ _, rfl⟩
        go_simp <;> (first | exact IntWalk.u64_in _ (by omega) | exact IntWalk.u32_in _ (by omega) | exact IntWalk.u16_in _ (by omega) | exact IntWalk.u8_in _ (by omega) | exact IntWalk.i64_in _ (by omega) | skip)
      case r14_1o29 =>
        intro vs w hb hV
        rw [if_pos (by first | kernel_rfl | rfl)]
        generalize hρ : rho _ _ _ vs = ρ
        have d67 : (vs 27) = .int .u32 (m : Int) := hV 27 (by first | kernel_rfl | rfl)
        have e67 : ρ (.tmp 67) = vs 27 := by rw [← hρ]; kernel_rfl
        rw [d67] at e67; clear d67
        have d68 : (vs 28) = .int .i64 (q : Int) := hV 28 (by first | kernel_rfl | rfl)
        have e68 : ρ (.tmp 68) = vs 28 := by rw [← hρ]; kernel_rfl
        rw [d68] at e68; clear d68
        have ef17 : ρ (.func 17) = .func (.func 17) #[] #[] := by rw [← hρ]; rfl
        clear hρ hV
        refine runs_call (f := 17) (args := #[.int .u32 (m : Int), .int .i64 (q : Int)]) (w' := w) ?_ ?_
        · go_simp
        · refine (KT.out w hb).mono ?_
          rintro e w5 ⟨A9, c9, rfl, hle9, hC9, hb5⟩
          exact ⟨_, rfl, hb5, _, _, rfl, hle9, hC9⟩
      case r14_1o30 =>
        intro vs w hb hV
        rw [if_pos (by first | kernel_rfl | rfl)]
        generalize hρ : rho _ _ _ vs = ρ
        have e10 : ρ (.tmp 10) = .slice A2 (obsI m).length c2 := by rw [← hρ]; kernel_rfl
        clear hρ hV
        refine runs_val (v := .slice A2 (obsI m).length c2) (w' := w) ?_ ⟨Below.refl _ _, rfl⟩
        go_simp <;> (first | exact IntWalk.u64_in _ (by omega) | exact IntWalk.u32_in _ (by omega) | exact IntWalk.u16_in _ (by omega) | exact IntWalk.u8_in _ (by omega) | exact IntWalk.i64_in _ (by omega) | skip)
      case r14_1o31 =>
        intro vs w hb hV
        rw [if_pos (by first | kernel_rfl | rfl)]
        generalize hρ : rho _ _ _ vs = ρ
        have e10 : ρ (.tmp 10) = .slice A2 (obsI m).length c2 := by rw [← hρ]; kernel_rfl
        clear hρ hV
        refine runs_val (v := .slice A2 (obsI m).length c2) (w' := w) ?_ ⟨Below.refl _ _, rfl⟩
        go_simp <;> (first | exact IntWalk.u64_in _ (by omega) | exact IntWalk.u32_in _ (by omega) | exact IntWalk.u16_in _ (by omega) | exact IntWalk.u8_in _ (by omega) | exact IntWalk.i64_in _ (by omega) | skip)
      case r14_1o32 =>
        intro vs w hb hV
        rw [if_pos (by first | kernel_rfl | rfl)]
        generalize hρ : rho _ _ _ vs = ρ
        have d71 : (vs 31) = .slice A2 (obsI m).length c2 := hV 31 (by first | kernel_rfl | rfl)
        have e71 : ρ (.tmp 71) = vs 31 := by rw [← hρ]; kernel_rfl
        rw [d71] at e71; clear d71
        clear hρ hV
        refine runs_val (v := .int .i64 ((obsI m).length : Int)) (w' := w) ?_ ⟨Below.refl _ _, rfl⟩
        go_simp <;> (first | exact IntWalk.u64_in _ (by omega) | exact IntWalk.u32_in _ (by omega) | exact IntWalk.u16_in _ (by omega) | exact IntWalk.u8_in _ (by omega) | exact IntWalk.i64_in _ (by omega) | skip)
      case r14_1o33 =>
        intro vs w hb hV
        rw [if_pos (by first | kernel_rfl | rfl)]
        generalize hρ : rho _ _ _ vs = ρ
        have e11 : ρ (.tmp 11) = .int .i64 (q : Int) := by rw [← hρ]; kernel_rfl
        clear hρ hV
        refine runs_val (v := .int .i64 (q : Int)) (w' := w) ?_ ⟨Below.refl _ _, rfl⟩
        go_simp <;> (first | exact IntWalk.u64_in _ (by omega) | exact IntWalk.u32_in _ (by omega) | exact IntWalk.u16_in _ (by omega) | exact IntWalk.u8_in _ (by omega) | exact IntWalk.i64_in _ (by omega) | skip)
      case r14_1o34 =>
        intro vs w hb hV
        rw [if_pos (by first | kernel_rfl | rfl)]
        generalize hρ : rho _ _ _ vs = ρ
        have d72 : (vs 32) = .int .i64 ((obsI m).length : Int) := hV 32 (by first | kernel_rfl | rfl)
        have e72 : ρ (.tmp 72) = vs 32 := by rw [← hρ]; kernel_rfl
        rw [d72] at e72; clear d72
        have d73 : (vs 33) = .int .i64 (q : Int) := hV 33 (by first | kernel_rfl | rfl)
        have e73 : ρ (.tmp 73) = vs 33 := by rw [← hρ]; kernel_rfl
        rw [d73] at e73; clear d73
        clear hρ hV
        have hx := HMN.out
        refine runs_val (v := .int .i64 (T.length : Int)) (w' := w) ?_ ⟨Below.refl _ _, rfl⟩
        rw [← hx]
        go_simp
      case r14_1o35 =>
        intro vs w hb hV
        rw [if_pos (by first | kernel_rfl | rfl)]
        generalize hρ : rho _ _ _ vs = ρ
        have d70 : (vs 30) = .slice A2 (obsI m).length c2 := hV 30 (by first | kernel_rfl | rfl)
        have e70 : ρ (.tmp 70) = vs 30 := by rw [← hρ]; kernel_rfl
        rw [d70] at e70; clear d70
        have d74 : (vs 34) = .int .i64 (T.length : Int) := hV 34 (by first | kernel_rfl | rfl)
        have e74 : ρ (.tmp 74) = vs 34 := by rw [← hρ]; kernel_rfl
        rw [d74] at e74; clear d74
        clear hρ hV
        exact runs_slice 22 (.tmp 70) none (some (.tmp 74)) none rfl Tryd.underlying22 (by simp only [Option.map_some, Option.map_none, e70, e74]; exact HX.out.1 w) ⟨Below.refl _ _, rfl⟩
      case r14_1o36 =>
        intro vs w hb hV
        rw [if_pos (by first | kernel_rfl | rfl)]
        generalize hρ : rho _ _ _ vs = ρ
        have d69 : (fun (w : World) (v : Value) => ∃ A c, v = .slice A T.length c ∧ T.length ≤ c ∧ (Kd.int .i64).C w A T.length T) w (vs 29) := hV 29 (by first | kernel_rfl | rfl)
        have e69 : ρ (.tmp 69) = vs 29 := by rw [← hρ]; kernel_rfl
        obtain ⟨A4, c4, h4, hc4, hC4⟩ := d69
        have d75 : (vs 35) = .slice A2 T.length c2 := hV 35 (by first | kernel_rfl | rfl)
        have e75 : ρ (.tmp 75) = vs 35 := by rw [← hρ]; kernel_rfl
        rw [d75] at e75; clear d75
        have ef16 : ρ (.func 16) = .func (.func 16) #[] #[] := by rw [← hρ]; rfl
        clear hρ hV
        rw [h4] at e69
        refine runs_call (f := 16) (args := #[.slice A4 T.length c4, .slice A2 T.length c2]) (w' := w) ?_ ?_
        · go_simp
        · have hsm := same_any A4 A2 c4 c2 T T w hC4 hc4 (by have hh := HX.out.2 w _ (Kd.C_below HW.out.2 hb); rw [HXT.out] at hh; exact hh) (by have := HK.out; have := HW.out.1; omega) (by have := HK.out; omega)
          rw [decide_eq_true rfl] at hsm
          refine hsm.mono ?_
          rintro e w5 ⟨rfl, hb5⟩
          exact ⟨_, rfl, hb5, rfl⟩
      case r14_1o37 =>
        intro vs w hb hV
        rw [if_pos (by first | kernel_rfl | rfl)]
        generalize hρ : rho _ _ _ vs = ρ
        have d66 : (vs 26) = .bool true := hV 26 (by first | kernel_rfl | rfl)
        have e66 : ρ (.tmp 66) = vs 26 := by rw [← hρ]; kernel_rfl
        rw [d66] at e66; clear d66
        have d76 : (vs 36) = .bool true := hV 36 (by first | kernel_rfl | rfl)
        have e76 : ρ (.tmp 76) = vs 36 := by rw [← hρ]; kernel_rfl
        rw [d76] at e76; clear d76
        have econ : ∀ v : Value, ρ (.const v) = v := fun v => by rw [← hρ]; rfl
        clear hρ hV
        refine runs_val (v := .bool true) (w' := w) ?_ ⟨Below.refl _ _, rfl⟩
        go_simp <;> (first | exact IntWalk.u64_in _ (by omega) | exact IntWalk.u32_in _ (by omega) | exact IntWalk.u16_in _ (by omega) | exact IntWalk.u8_in _ (by omega) | exact IntWalk.i64_in _ (by omega) | skip)
      case r14_1o38 =>
        intro vs w hb hV
        rw [if_pos (by first | kernel_rfl | rfl)]
        generalize hρ : rho _ _ _ vs = ρ
        have d77 : (vs 37) = .bool true := hV 37 (by first | kernel_rfl | rfl)
        have e77 : ρ (.tmp 77) = vs 37 := by rw [← hρ]; kernel_rfl
        clear hρ hV
        refine runs_val (v := vs 37) (w' := w) ?_ ⟨Below.refl _ _, d77⟩
        go_simp
      case r14_1o39 =>
        intro vs w hb hV
        rw [if_pos (by first | kernel_rfl | rfl)]
        generalize hρ : rho _ _ _ vs = ρ
        have e9 : ρ (.tmp 9) = .int .u32 (m : Int) := by rw [← hρ]; kernel_rfl
        clear hρ hV
        refine runs_val (v := .int .u32 (m : Int)) (w' := w) ?_ ⟨Below.refl _ _, rfl⟩
        go_simp <;> (first | exact IntWalk.u64_in _ (by omega) | exact IntWalk.u32_in _ (by omega) | exact IntWalk.u16_in _ (by omega) | exact IntWalk.u8_in _ (by omega) | exact IntWalk.i64_in _ (by omega) | skip)
      case r14_1o40 =>
        intro vs w hb hV
        rw [if_pos (by first | kernel_rfl | rfl)]
        generalize hρ : rho _ _ _ vs = ρ
        have d79 : (vs 39) = .int .u32 (m : Int) := hV 39 (by first | kernel_rfl | rfl)
        have e79 : ρ (.tmp 79) = vs 39 := by rw [← hρ]; kernel_rfl
        rw [d79] at e79; clear d79
        have ef18 : ρ (.func 18) = .func (.func 18) #[] #[] := by rw [← hρ]; rfl
        clear hρ hV
        refine runs_call (f := 18) (args := #[.int .u32 (m : Int)]) (w' := w) ?_ ?_
        · go_simp
        · refine (KX.out w hb).mono ?_
          rintro e w5 ⟨rfl, hb5⟩
          exact ⟨_, rfl, hb5, rfl⟩
      case r14_1o41 =>
        intro vs w hb hV
        rw [if_pos (by first | kernel_rfl | rfl)]
        generalize hρ : rho _ _ _ vs = ρ
        have e9 : ρ (.tmp 9) = .int .u32 (m : Int) := by rw [← hρ]; kernel_rfl
        clear hρ hV
        refine runs_val (v := .int .u32 (m : Int)) (w' := w) ?_ ⟨Below.refl _ _, rfl⟩
        go_simp <;> (first | exact IntWalk.u64_in _ (by omega) | exact IntWalk.u32_in _ (by omega) | exact IntWalk.u16_in _ (by omega) | exact IntWalk.u8_in _ (by omega) | exact IntWalk.i64_in _ (by omega) | skip)
      case r14_1o42 =>
        intro vs w hb hV
        rw [if_pos (by first | kernel_rfl | rfl)]
        generalize hρ : rho _ _ _ vs = ρ
        have d81 : (vs 41) = .int .u32 (m : Int) := hV 41 (by first | kernel_rfl | rfl)
        have e81 : ρ (.tmp 81) = vs 41 := by rw [← hρ]; kernel_rfl
        rw [d81] at e81; clear d81
        have ef19 : ρ (.func 19) = .func (.func 19) #[] #[] := by rw [← hρ]; rfl
        clear hρ hV
        refine runs_call (f := 19) (args := #[.int .u32 (m : Int)]) (w' := w) ?_ ?_
        · go_simp
        · refine (KY.out w hb).mono ?_
          rintro e w5 ⟨rfl, hb5⟩
          exact ⟨_, rfl, hb5, rfl⟩
      case r14_1o43 =>
        intro vs w hb hV
        rw [if_pos (by first | kernel_rfl | rfl)]
        generalize hρ : rho _ _ _ vs = ρ
        have d80 : (vs 40) = .string (textF m) := hV 40 (by first | kernel_rfl | rfl)
        have e80 : ρ (.tmp 80) = vs 40 := by rw [← hρ]; kernel_rfl
        rw [d80] at e80; clear d80
        have d82 : (vs 42) = .string (textF m) := hV 42 (by first | kernel_rfl | rfl)
        have e82 : ρ (.tmp 82) = vs 42 := by rw [← hρ]; kernel_rfl
        rw [d82] at e82; clear d82
        clear hρ hV
        refine runs_val (v := .bool true) (w' := w) ?_ ⟨Below.refl _ _, rfl⟩
        go_simp <;> (first | exact IntWalk.u64_in _ (by omega) | exact IntWalk.u32_in _ (by omega) | exact IntWalk.u16_in _ (by omega) | exact IntWalk.u8_in _ (by omega) | exact IntWalk.i64_in _ (by omega) | skip)
      case r14_1o44 =>
        intro vs w hb hV
        rw [if_pos (by first | kernel_rfl | rfl)]
        generalize hρ : rho _ _ _ vs = ρ
        have d78 : (vs 38) = .bool true := hV 38 (by first | kernel_rfl | rfl)
        have e78 : ρ (.tmp 78) = vs 38 := by rw [← hρ]; kernel_rfl
        rw [d78] at e78; clear d78
        have d83 : (vs 43) = .bool true := hV 43 (by first | kernel_rfl | rfl)
        have e83 : ρ (.tmp 83) = vs 43 := by rw [← hρ]; kernel_rfl
        rw [d83] at e83; clear d83
        have econ : ∀ v : Value, ρ (.const v) = v := fun v => by rw [← hρ]; rfl
        clear hρ hV
        refine runs_val (v := .bool true) (w' := w) ?_ ⟨Below.refl _ _, rfl⟩
        go_simp <;> (first | exact IntWalk.u64_in _ (by omega) | exact IntWalk.u32_in _ (by omega) | exact IntWalk.u16_in _ (by omega) | exact IntWalk.u8_in _ (by omega) | exact IntWalk.i64_in _ (by omega) | skip)
      case r14_1o45 =>
        intro vs w hb hV
        rw [if_pos (by first | kernel_rfl | rfl)]
        generalize hρ : rho _ _ _ vs = ρ
        have d84 : (vs 44) = .bool true := hV 44 (by first | kernel_rfl | rfl)
        have e84 : ρ (.tmp 84) = vs 44 := by rw [← hρ]; kernel_rfl
        clear hρ hV
        refine runs_val (v := vs 44) (w' := w) ?_ ⟨Below.refl _ _, d84⟩
        go_simp
      case r14_1e =>
        intro vs W2 hb2 hV
        have d40 : (vs 0) = .int .u32 (m : Int) := hV 0 (Nat.le_of_ble_eq_true rfl)
        have d41 : (vs 1) = .slice A1 L.length c1 := hV 1 (Nat.le_of_ble_eq_true rfl)
        have d42 : (vs 2) = .int .u32 (m : Int) := hV 2 (Nat.le_of_ble_eq_true rfl)
        have d43 : (vs 3) = .bool true := hV 3 (Nat.le_of_ble_eq_true rfl)
        have d44 : (vs 4) = .bool true := hV 4 (Nat.le_of_ble_eq_true rfl)
        have d45 : (vs 5) = .int .u32 (m : Int) := hV 5 (Nat.le_of_ble_eq_true rfl)
        have d46 : (vs 6) = .int .i64 o := hV 6 (Nat.le_of_ble_eq_true rfl)
        have d47 : (vs 7) = .bool bo := hV 7 (Nat.le_of_ble_eq_true rfl)
        have d48 : (vs 8) = .slice A2 (obsI m).length c2 := hV 8 (Nat.le_of_ble_eq_true rfl)
        have d49 : (vs 9) = .int .i64 o := hV 9 (Nat.le_of_ble_eq_true rfl)
        have d50 : (vs 10) = .bool bo := hV 10 (Nat.le_of_ble_eq_true rfl)
        have d51 : (vs 11) = .bool true := hV 11 (Nat.le_of_ble_eq_true rfl)
        have d52 : (vs 12) = .bool true := hV 12 (Nat.le_of_ble_eq_true rfl)
        have d53 : (vs 13) = .bool true := hV 13 (Nat.le_of_ble_eq_true rfl)
        have d54 : (vs 14) = .int .u32 (m : Int) := hV 14 (Nat.le_of_ble_eq_true rfl)
        have d55 : (vs 15) = .int .i64 ((obsI m).length : Int) := hV 15 (Nat.le_of_ble_eq_true rfl)
        have d56 : (vs 16) = .slice A2 (obsI m).length c2 := hV 16 (Nat.le_of_ble_eq_true rfl)
        have d57 : (vs 17) = .int .i64 ((obsI m).length : Int) := hV 17 (Nat.le_of_ble_eq_true rfl)
        have d58 : (vs 18) = .bool true := hV 18 (Nat.le_of_ble_eq_true rfl)
        have d59 : (vs 19) = .bool true := hV 19 (Nat.le_of_ble_eq_true rfl)
        have d60 : (vs 20) = .bool true := hV 20 (Nat.le_of_ble_eq_true rfl)
        have d61 : (vs 21) = .int .u32 (m : Int) := hV 21 (Nat.le_of_ble_eq_true rfl)
        have d62 : (fun (w : World) (v : Value) => ∃ A c, v = .slice A (obsI m).length c ∧ (obsI m).length ≤ c ∧ (Kd.int .i64).C w A (obsI m).length (obsI m)) W2 (vs 22) := hV 22 (Nat.le_of_ble_eq_true rfl)
        have d63 : (vs 23) = .slice A2 (obsI m).length c2 := hV 23 (Nat.le_of_ble_eq_true rfl)
        have d64 : (vs 24) = .bool true := hV 24 (Nat.le_of_ble_eq_true rfl)
        have d65 : (vs 25) = .bool true := hV 25 (Nat.le_of_ble_eq_true rfl)
        have d66 : (vs 26) = .bool true := hV 26 (Nat.le_of_ble_eq_true rfl)
        have d67 : (vs 27) = .int .u32 (m : Int) := hV 27 (Nat.le_of_ble_eq_true rfl)
        have d68 : (vs 28) = .int .i64 (q : Int) := hV 28 (Nat.le_of_ble_eq_true rfl)
        have d69 : (fun (w : World) (v : Value) => ∃ A c, v = .slice A T.length c ∧ T.length ≤ c ∧ (Kd.int .i64).C w A T.length T) W2 (vs 29) := hV 29 (Nat.le_of_ble_eq_true rfl)
        have d70 : (vs 30) = .slice A2 (obsI m).length c2 := hV 30 (Nat.le_of_ble_eq_true rfl)
        have d71 : (vs 31) = .slice A2 (obsI m).length c2 := hV 31 (Nat.le_of_ble_eq_true rfl)
        have d72 : (vs 32) = .int .i64 ((obsI m).length : Int) := hV 32 (Nat.le_of_ble_eq_true rfl)
        have d73 : (vs 33) = .int .i64 (q : Int) := hV 33 (Nat.le_of_ble_eq_true rfl)
        have d74 : (vs 34) = .int .i64 (T.length : Int) := hV 34 (Nat.le_of_ble_eq_true rfl)
        have d75 : (vs 35) = .slice A2 T.length c2 := hV 35 (Nat.le_of_ble_eq_true rfl)
        have d76 : (vs 36) = .bool true := hV 36 (Nat.le_of_ble_eq_true rfl)
        have d77 : (vs 37) = .bool true := hV 37 (Nat.le_of_ble_eq_true rfl)
        have d78 : (vs 38) = .bool true := hV 38 (Nat.le_of_ble_eq_true rfl)
        have d79 : (vs 39) = .int .u32 (m : Int) := hV 39 (Nat.le_of_ble_eq_true rfl)
        have d80 : (vs 40) = .string (textF m) := hV 40 (Nat.le_of_ble_eq_true rfl)
        have d81 : (vs 41) = .int .u32 (m : Int) := hV 41 (Nat.le_of_ble_eq_true rfl)
        have d82 : (vs 42) = .string (textF m) := hV 42 (Nat.le_of_ble_eq_true rfl)
        have d83 : (vs 43) = .bool true := hV 43 (Nat.le_of_ble_eq_true rfl)
        have d84 : (vs 44) = .bool true := hV 44 (Nat.le_of_ble_eq_true rfl)
        have d8 : (vs 45) = .bool true := hV 45 (Nat.le_of_ble_eq_true rfl)
        clear hV
        simp only [putAll]
        rw [d40, d41, d42, d43, d44, d45, d46, d47, d48, d49, d50, d51, d52, d53, d54, d55, d56, d57, d58, d59, d60, d61, d63, d64, d65, d66, d67, d68, d70, d71, d72, d73, d74, d75, d76, d77, d78, d79, d80, d81, d82, d83, d84, d8]
        clear d40 d41 d42 d43 d44 d45 d46 d47 d48 d49 d50 d51 d52 d53 d54 d55 d56 d57 d58 d59 d60 d61 d63 d64 d65 d66 d67 d68 d70 d71 d72 d73 d74 d75 d76 d77 d78 d79 d80 d81 d82 d83 d84 d8
        generalize vs 22 = v62 at *
        generalize vs 29 = v69 at *
        clear vs
        simp only [Act.put, List.setIfInBounds_toArray, List.set_cons_zero, List.set_cons_succ]
        go_wp2_with fail
        go_ret
        exact ⟨rfl, bel_trs HB.out hb2⟩
theorem tells_row (A : Option Addr) (len c : Nat) (l : List Int) (o n s : Int) (w00 : World) (hT : Tabs w00) (hr : (Kd.int .i64).C w00 A len l) (hc : len ≤ c) (hl : ∀ x ∈ l, -9223372036854775808 ≤ x ∧ x < 9223372036854775808) (ho : -9223372036854775808 ≤ o ∧ o < 9223372036854775808) (hn : -9223372036854775808 ≤ n ∧ n < 9223372036854775808) (hs : 0 ≤ s ∧ s < 256) :
    Calls Tryd.prog 3 #[.slice A len c, .int .i64 o, .int .i64 n, .int .u8 s] w00 fun e w' => e = .returned (.bool true) ∧ Below w00.heap.size w00 w' :=
  tells_walk A len c l o n s w00 hT hr hc hs
end Go.Proofs.YthafmgcflbdjpaaDoor
