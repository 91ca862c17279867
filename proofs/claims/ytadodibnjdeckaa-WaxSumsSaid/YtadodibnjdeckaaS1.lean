/- WaxSums, walked. -/
import Derived.Test.YtadodibnjdeckaaSp
import Derived.Test.YtadodibnjdeckaaWk
import Derived.Test.YtadodibnjdeckaaO
import Derived.Deep.RegionHeld3
namespace Go.Proofs.Ytadodibnjdeckaa
open Go.RowKit Go.Proofs.YtadodibnjdeckaaW.PrintWords Go.Proofs.YtadodibnjdeckaaW.PrintLast Go.Proofs.YtadodibnjdeckaaW.PrintMore
set_option linter.unusedVariables false
set_option linter.unusedSimpArgs false

attribute [local go_sem] max2_int min2_int max_two min_two
set_option maxRecDepth 100000 in
set_option maxHeartbeats 2000000 in
theorem waxSums_walk (A : Option Addr) (n c : Nat) (l : List Int) (cut : Int) (w : World) (hr : (Kd.int .u8).C w A n l) (hc : n ≤ c) (hb : Bytes l) (hcut : 0 ≤ cut ∧ cut < 65536) :
    Calls Try.prog 3 #[.slice A n c, .int .u16 cut] w fun e w' => e = .returned (.bool true) ∧ Below w.heap.size w w' := by
  obtain rfl := hr.1
  have HR := Aside0.mk hr
  have HBY := Aside0.mk hb
  clear hr hb
  go_enter Try.func3, Try.ntmps3
  go_wp2_with fail
  refine (awake_any _).mono ?_
  rintro e w1 ⟨rfl, hb1⟩
  have HB1 := Aside0.mk hb1
  clear hb1
  go_wp2_with fail
  refine (cut_any _ _ _ l 300 _ (Kd.C_below HR.out HB1.out) hc (by omega)).mono ?_
  rintro e w2 ⟨v2, rfl, ho2, hb2⟩
  have HB2 := Aside0.mk (below_step HB1.out hb2)
  clear hb2 HB1
  have HBT := Aside0.mk (HBY.out.take 300)
  have hq : (l.take 300).length ≤ 300 := List.length_take_le _ _
  simp only [show (300 : Int).toNat = 300 from rfl] at ho2
  generalize l.take 300 = q at *
  obtain ⟨Q, d, rfl, hd, hC2⟩ := Kd.R_reads ho2
  have HC2 := Aside0.mk hC2
  clear ho2 hC2
  go_wp2_with fail
  refine (make_any _).mono ?_
  rintro e w3 ⟨T, rfl, hT, hb3⟩
  have HT := Aside0.mk hT
  have HB3 := Aside0.mk (below_step HB2.out hb3)
  have HC3 := Aside0.mk (Kd.C_below HC2.out hb3)
  clear hT hb3 HB2 HC2
  have Hsz : Aside0 ((Try.prog.info? 28).map (·.size) = some T.size) := ⟨by rw [HT.out.size]; kernel_rfl⟩
  obtain ⟨kk, hkk, hmn⟩ : ∃ kk : Nat, kk ≤ q.length ∧ (if (q.length : Int) < cut then (q.length : Int) else cut) = (kk : Int) := by
    by_cases h : (q.length : Int) < cut
    · exact ⟨q.length, Nat.le_refl _, by rw [if_pos h]⟩
    · exact ⟨cut.toNat, by omega, by rw [if_neg h]; omega⟩
  have hz := zero_table
  go_wp2_with (first | (refine wpList_store_row rfl 28 (.tmp 5) (.tmp 15) rfl w3.heap.size T rfl rfl 28 Z256 (heap_alloc_new _ _) Hsz.out (by rw [Z256_size, HT.out.size]) HT.out.one ?_))
  obtain ⟨W, hW⟩ : ∃ W, W = (w3.alloc (Obj.cells Z256 28)).setRow w3.heap.size T := ⟨_, rfl⟩
  rw [← hW]
  have HB := Aside0.mk (show Below w.heap.size w W from by rw [hW]; exact below_setRow (below_alloc HB3.out _) HB3.out.size _)
  have HG := Aside0.mk (show W.heap[w3.heap.size]? = some (.cells T 28 (0, 0)) from by rw [hW]; exact setRow_heap _ _ _ _ _ _ (heap_alloc_new _ _))
  have HC := Aside0.mk (show (Kd.int .u8).C W Q q.length q from by rw [hW]; exact Kd.C_below HC3.out (below_setRow (below_alloc (Below.refl _ _) _) (Nat.le_refl _) _))
  have hgW : w3.heap.size < W.heap.size := blk_lt HG.out
  clear hW HB3 HC3 hz
  generalize w3.heap.size = g at *
  clear hmn
  go_loop [7, 23] (fun v7 v23 => ∃ j : Nat, j ≤ q.length ∧ v23 = .int .i64 j ∧ v7 = .int .u32 (steps 4294967295 (q.take j) : Nat)) (fun _ v23 => q.length - (intOf v23).toNat)
  case atStart => exact ⟨0, by omega, rfl, rfl⟩
  case round =>
    obtain ⟨j, hj, rfl, rfl⟩ := hrel
    by_cases hjl : j < q.length
    · obtain ⟨ad1, rfl, hc1⟩ := int_at HC.out j hjl
      obtain ⟨bn, hbe, hbn⟩ := HBT.out.nat hjl
      rw [hbe] at hc1
      have HE : Hid (steps 4294967295 (q.take (j + 1)) = stepN (steps 4294967295 (q.take j)) bn) := by rw [take_snoc hjl, steps_snoc, hbe]; rfl
      clear hbe
      have HS1 := Aside0.mk (steps_lt (HBT.out.take j) (by omega : (4294967295 : Nat) < 4294967296))
      generalize steps 4294967295 (q.take j) = s1 at *
      go_wp2_with (first | (go_at_call 11; refine (step_any s1 bn _ HS1.out hbn).mono ?_; rintro e w' ⟨rfl, rfl⟩))
      go_round
      case rel => exact ⟨j + 1, by omega, by go_num, by rw [HE.out]⟩
      case measure => simp [intOf]; omega
    · obtain rfl : j = q.length := by omega
      rw [List.take_length] at *
      have HS : Hid (sumN tab q = 4294967295 - steps 4294967295 q) := by show sumN tab q = _; unfold sumN; rw [tsum_steps HBT.out]
      have HS1 := Aside0.mk (steps_lt HBT.out (by omega : (4294967295 : Nat) < 4294967296))
      generalize steps 4294967295 q = s1 at *
      go_wp2_with (first | (go_at_call 12; refine (refsum_any _ _ _ q _ HC.out hd HBT.out (by omega)).mono ?_; rintro e w' ⟨rfl, ⟨nd, rfl⟩⟩))
      obtain ⟨V, hV⟩ : ∃ V, V = W.drewN nd := ⟨_, rfl⟩
      rw [← hV]
      have HBV := Aside0.mk (show Below w.heap.size w V from by rw [hV]; exact pw_below_drewN HB.out _)
      have HCV := Aside0.mk (show (Kd.int .u8).C V Q q.length q from by rw [hV]; exact Kd.C_drewN HC.out _)
      have hGV : V.heap[g]? = some (.cells T 28 (0, 0)) := by rw [hV]; exact HG.out
      clear hV HG HC HB hgW
      have HGV := Aside0.mk hGV
      clear hGV
      generalize hm : sumN tab q = m at *
      have HM := Lib.hid hm
      clear hm
      obtain ⟨Q1, hq1, hC1⟩ := cut_lo (P := Try.prog) .u8 .i64 22 5 1 Try.underlying22 wx_info5 Q q.length d kk hkk hd
      obtain ⟨hq2, hC2⟩ := cut_hi (P := Try.prog) .u8 .i64 22 5 1 Try.underlying22 wx_info5 Q q.length d kk hkk hd
      have HK1 := Aside0.mk hC1
      have HK2 := Aside0.mk hC2
      clear hC1 hC2
      have HP : Aside0 ((∀ p ∈ [q.take kk, q.drop kk], Bytes p) ∧ sumN tab [q.take kk, q.drop kk].flatten = m ∧ (∀ p ∈ [q], Bytes p) ∧ sumN tab [q].flatten = m) := by
        refine ⟨?_, ?_, ?_, ?_⟩
        · intro p hp
          rcases List.mem_cons.1 hp with rfl | hp
          · exact HBT.out.take _
          · rw [List.mem_singleton.1 hp]; exact HBT.out.drop _
        · simp [HM.out]
        · intro p hp; rw [List.mem_singleton.1 hp]; exact HBT.out
        · simp [HM.out]
      have h0 : sumN tab ([] : List (List Int)).flatten = 0 := by decide
      have hml : m < 4294967296 := by rw [← HM.out]; unfold sumN; omega
      have hfl : bits .xor .u32 IntKind.u32.max (s1 : Int) = (m : Int) := by rw [u32_flip HS1.out, ← HS.out]
      clear HS HS1
      refine region_grown (W := V)
        [fun (w : World) (v : Value) => v = .agg T,
   fun (w : World) (v : Value) => v = .slice Q q.length d,
   fun (w : World) (v : Value) => ∃ A, v = .slice A 1 1 ∧ (Kd.slice 5 (Kd.int .u8)).C w A 1 [q],
   fun (w : World) (v : Value) => v = .int .u32 m,
   fun (w : World) (v : Value) => v = .int .u32 m,
   fun (w : World) (v : Value) => v = .bool true,
   fun (w : World) (v : Value) => v = .bool true,
   fun (w : World) (v : Value) => v = .agg T,
   fun (w : World) (v : Value) => v = .slice Q q.length d,
   fun (w : World) (v : Value) => v = .int .i64 kk,
   fun (w : World) (v : Value) => v = .slice Q kk d,
   fun (w : World) (v : Value) => v = .slice Q q.length d,
   fun (w : World) (v : Value) => v = .int .i64 kk,
   fun (w : World) (v : Value) => v = .slice Q1 (q.length - kk) (d - kk),
   fun (w : World) (v : Value) => ∃ A, v = .slice A 2 2 ∧ (Kd.slice 5 (Kd.int .u8)).C w A 2 [q.take kk, q.drop kk],
   fun (w : World) (v : Value) => v = .int .u32 m,
   fun (w : World) (v : Value) => v = .int .u32 m,
   fun (w : World) (v : Value) => v = .bool true,
   fun (w : World) (v : Value) => v = .bool true,
   fun (w : World) (v : Value) => v = .bool true,
   fun (w : World) (v : Value) => v = .int .u32 s1,
   fun (w : World) (v : Value) => v = .int .u32 m,
   fun (w : World) (v : Value) => v = .int .u32 m,
   fun (w : World) (v : Value) => v = .bool true,
   fun (w : World) (v : Value) => v = .bool true,
   fun (w : World) (v : Value) => v = .bool true,
   fun (w : World) (v : Value) => v = .agg T,
   fun (w : World) (v : Value) => v = .int .u32 0,
   fun (w : World) (v : Value) => v = .bool true,
   fun (w : World) (v : Value) => v = .bool true,
   fun (w : World) (v : Value) => v = .bool true]
        (fun j => if j = 6 then some true else if j = 19 then some true else if j = 25 then some true else none)
        [(0, some 33), (1, some 34), (2, some 35), (3, some 36), (4, some 37), (5, some 38), (6, some 39), (7, some 40), (8, some 41), (9, some 42), (10, some 43), (11, some 44), (12, some 45), (13, some 46), (14, some 47), (15, some 48), (16, some 49), (17, some 50), (18, some 51), (19, some 52), (20, some 53), (21, some 54), (22, some 55), (23, some 56), (24, some 57), (25, some 58), (26, some 59), (27, some 60), (28, some 61), (29, some 62), (30, some 4)]
        [6, 19, 25]
        (by kernel_rfl) (by kernel_rfl) (by kernel_rfl) (by kernel_rfl) ?r13_1g ?r13_1s ⟨?r13_1o0, ?r13_1o1, ?r13_1o2, ?r13_1o3, ?r13_1o4, ?r13_1o5, ?r13_1o6, ?r13_1o7, ?r13_1o8, ?r13_1o9, ?r13_1o10, ?r13_1o11, ?r13_1o12, ?r13_1o13, ?r13_1o14, ?r13_1o15, ?r13_1o16, ?r13_1o17, ?r13_1o18, ?r13_1o19, ?r13_1o20, ?r13_1o21, ?r13_1o22, ?r13_1o23, ?r13_1o24, ?r13_1o25, ?r13_1o26, ?r13_1o27, ?r13_1o28, ?r13_1o29, ?r13_1o30, trivial⟩ ?r13_1e
      case r13_1g =>
        intro j hj w v hv
        simp only [List.mem_cons, List.not_mem_nil, or_false] at hj
        rcases hj with rfl | rfl | rfl
        · have hv' : v = .bool true := hv; rw [hv']; rfl
        · have hv' : v = .bool true := hv; rw [hv']; rfl
        · have hv' : v = .bool true := hv; rw [hv']; rfl
      case r13_1s =>
        refine ⟨(fun w w' v hb h => h), (fun w w' v hb h => h), (fun w w' v hb h => let ⟨A, h1, h2⟩ := h; ⟨A, h1, Kd.C_below h2 hb⟩), (fun w w' v hb h => h), (fun w w' v hb h => h), (fun w w' v hb h => h), (fun w w' v hb h => h), (fun w w' v hb h => h), (fun w w' v hb h => h), (fun w w' v hb h => h), (fun w w' v hb h => h), (fun w w' v hb h => h), (fun w w' v hb h => h), (fun w w' v hb h => h), (fun w w' v hb h => let ⟨A, h1, h2⟩ := h; ⟨A, h1, Kd.C_below h2 hb⟩), (fun w w' v hb h => h), (fun w w' v hb h => h), (fun w w' v hb h => h), (fun w w' v hb h => h), (fun w w' v hb h => h), (fun w w' v hb h => h), (fun w w' v hb h => h), (fun w w' v hb h => h), (fun w w' v hb h => h), (fun w w' v hb h => h), (fun w w' v hb h => h), (fun w w' v hb h => h), (fun w w' v hb h => h), (fun w w' v hb h => h), (fun w w' v hb h => h), (fun w w' v hb h => h), trivial⟩
      case r13_1o0 =>
        intro vs w hb hV
        rw [if_pos (by kernel_rfl)]
        generalize hρ : rho _ _ _ vs = ρ
        have e5 : ρ (.tmp 5) = .pointer (some ⟨g, 0, none⟩) := by rw [← hρ]; kernel_rfl
        clear hρ hV
        exact runs_load 28 (.tmp 5) rfl g e5 28 T (0, 0) _ ((hb.block g (blk_lt HGV.out)).trans HGV.out) Try.underlying28 rfl Hsz.out ⟨Below.refl _ _, rfl⟩
      case r13_1o1 =>
        intro vs w hb hV
        rw [if_pos (by kernel_rfl)]
        generalize hρ : rho _ _ _ vs = ρ
        have e0 : ρ (.tmp 0) = .slice Q q.length d := by rw [← hρ]; kernel_rfl
        clear hρ hV
        refine runs_val (v := .slice Q q.length d) (w' := w) ?_ ⟨Below.refl _ _, rfl⟩
        go_simp
      case r13_1o2 =>
        intro vs w hb hV
        rw [if_pos (by kernel_rfl)]
        generalize hρ : rho _ _ _ vs = ρ
        have d34 : (vs 1) = .slice Q q.length d := hV 1 (by kernel_rfl)
        have e34 : ρ (.tmp 34) = vs 1 := by rw [← hρ]; kernel_rfl
        rw [d34] at e34; clear d34
        clear hρ hV
        refine runs_val (v := .slice (some ⟨w.heap.size, 0, none⟩) 1 1) (w' := w.alloc (.cells #[.slice Q q.length d] 22)) ?_ ⟨below_alloc (Below.refl _ _) _, _, rfl, C_one_row rfl (Kd.C_below HCV.out hb) hd⟩
        go_simp
      case r13_1o3 =>
        intro vs w hb hV
        rw [if_pos (by kernel_rfl)]
        generalize hρ : rho _ _ _ vs = ρ
        have d33 : (vs 0) = .agg T := hV 0 (by kernel_rfl)
        have e33 : ρ (.tmp 33) = vs 0 := by rw [← hρ]; kernel_rfl
        rw [d33] at e33; clear d33
        have d35 : (fun (w : World) (v : Value) => ∃ A, v = .slice A 1 1 ∧ (Kd.slice 5 (Kd.int .u8)).C w A 1 [q]) w (vs 2) := hV 2 (by kernel_rfl)
        have e35 : ρ (.tmp 35) = vs 2 := by rw [← hρ]; kernel_rfl
        obtain ⟨A1, h1, hC1⟩ := d35
        have ef13 : ρ (.func 13) = .func (.func 13) #[] #[] := by rw [← hρ]; rfl
        clear hρ hV
        rw [h1] at e35
        refine runs_call (f := 13) (args := #[.agg T, .slice A1 1 1]) (w' := w) ?_ ?_
        · go_simp
        · refine (sum_any tab T _ _ _ [q] m _ HT.out hC1 HP.out.2.2.1 HP.out.2.2.2).mono ?_
          rintro e w5 ⟨rfl, hb5⟩
          exact ⟨_, rfl, hb5, rfl⟩
      case r13_1o4 =>
        intro vs w hb hV
        rw [if_pos (by kernel_rfl)]
        generalize hρ : rho _ _ _ vs = ρ
        have e10 : ρ (.tmp 10) = .int .u32 m := by rw [← hρ]; kernel_rfl
        clear hρ hV
        refine runs_val (v := .int .u32 m) (w' := w) ?_ ⟨Below.refl _ _, rfl⟩
        go_simp
      case r13_1o5 =>
        intro vs w hb hV
        rw [if_pos (by kernel_rfl)]
        generalize hρ : rho _ _ _ vs = ρ
        have d36 : (vs 3) = .int .u32 m := hV 3 (by kernel_rfl)
        have e36 : ρ (.tmp 36) = vs 3 := by rw [← hρ]; kernel_rfl
        rw [d36] at e36; clear d36
        have d37 : (vs 4) = .int .u32 m := hV 4 (by kernel_rfl)
        have e37 : ρ (.tmp 37) = vs 4 := by rw [← hρ]; kernel_rfl
        rw [d37] at e37; clear d37
        clear hρ hV
        refine runs_val (v := .bool true) (w' := w) ?_ ⟨Below.refl _ _, rfl⟩
        go_simp
      case r13_1o6 =>
        intro vs w hb hV
        rw [if_pos (by kernel_rfl)]
        generalize hρ : rho _ _ _ vs = ρ
        have d38 : (vs 5) = .bool true := hV 5 (by kernel_rfl)
        have e38 : ρ (.tmp 38) = vs 5 := by rw [← hρ]; kernel_rfl
        clear hρ hV
        refine runs_val (v := vs 5) (w' := w) ?_ ⟨Below.refl _ _, d38⟩
        go_simp
      case r13_1o7 =>
        intro vs w hb hV
        rw [if_pos (by kernel_rfl)]
        generalize hρ : rho _ _ _ vs = ρ
        have e5 : ρ (.tmp 5) = .pointer (some ⟨g, 0, none⟩) := by rw [← hρ]; kernel_rfl
        clear hρ hV
        exact runs_load 28 (.tmp 5) rfl g e5 28 T (0, 0) _ ((hb.block g (blk_lt HGV.out)).trans HGV.out) Try.underlying28 rfl Hsz.out ⟨Below.refl _ _, rfl⟩
      case r13_1o8 =>
        intro vs w hb hV
        rw [if_pos (by kernel_rfl)]
        generalize hρ : rho _ _ _ vs = ρ
        have e0 : ρ (.tmp 0) = .slice Q q.length d := by rw [← hρ]; kernel_rfl
        clear hρ hV
        refine runs_val (v := .slice Q q.length d) (w' := w) ?_ ⟨Below.refl _ _, rfl⟩
        go_simp
      case r13_1o9 =>
        intro vs w hb hV
        rw [if_pos (by kernel_rfl)]
        generalize hρ : rho _ _ _ vs = ρ
        have e6 : ρ (.tmp 6) = .int .i64 kk := by rw [← hρ]; kernel_rfl
        clear hρ hV
        refine runs_val (v := .int .i64 kk) (w' := w) ?_ ⟨Below.refl _ _, rfl⟩
        go_simp
      case r13_1o10 =>
        intro vs w hb hV
        rw [if_pos (by kernel_rfl)]
        generalize hρ : rho _ _ _ vs = ρ
        have d41 : (vs 8) = .slice Q q.length d := hV 8 (by kernel_rfl)
        have e41 : ρ (.tmp 41) = vs 8 := by rw [← hρ]; kernel_rfl
        rw [d41] at e41; clear d41
        have d42 : (vs 9) = .int .i64 kk := hV 9 (by kernel_rfl)
        have e42 : ρ (.tmp 42) = vs 9 := by rw [← hρ]; kernel_rfl
        rw [d42] at e42; clear d42
        clear hρ hV
        refine runs_val (v := .slice Q kk d) (w' := w) ?_ ⟨Below.refl _ _, rfl⟩
        go_simp
      case r13_1o11 =>
        intro vs w hb hV
        rw [if_pos (by kernel_rfl)]
        generalize hρ : rho _ _ _ vs = ρ
        have e0 : ρ (.tmp 0) = .slice Q q.length d := by rw [← hρ]; kernel_rfl
        clear hρ hV
        refine runs_val (v := .slice Q q.length d) (w' := w) ?_ ⟨Below.refl _ _, rfl⟩
        go_simp
      case r13_1o12 =>
        intro vs w hb hV
        rw [if_pos (by kernel_rfl)]
        generalize hρ : rho _ _ _ vs = ρ
        have e6 : ρ (.tmp 6) = .int .i64 kk := by rw [← hρ]; kernel_rfl
        clear hρ hV
        refine runs_val (v := .int .i64 kk) (w' := w) ?_ ⟨Below.refl _ _, rfl⟩
        go_simp
      case r13_1o13 =>
        intro vs w hb hV
        rw [if_pos (by kernel_rfl)]
        generalize hρ : rho _ _ _ vs = ρ
        have d44 : (vs 11) = .slice Q q.length d := hV 11 (by kernel_rfl)
        have e44 : ρ (.tmp 44) = vs 11 := by rw [← hρ]; kernel_rfl
        rw [d44] at e44; clear d44
        have d45 : (vs 12) = .int .i64 kk := hV 12 (by kernel_rfl)
        have e45 : ρ (.tmp 45) = vs 12 := by rw [← hρ]; kernel_rfl
        rw [d45] at e45; clear d45
        clear hρ hV
        refine runs_val (v := .slice Q1 (q.length - kk) (d - kk)) (w' := w) ?_ ⟨Below.refl _ _, rfl⟩
        go_simp
      case r13_1o14 =>
        intro vs w hb hV
        rw [if_pos (by kernel_rfl)]
        generalize hρ : rho _ _ _ vs = ρ
        have d43 : (vs 10) = .slice Q kk d := hV 10 (by kernel_rfl)
        have e43 : ρ (.tmp 43) = vs 10 := by rw [← hρ]; kernel_rfl
        rw [d43] at e43; clear d43
        have d46 : (vs 13) = .slice Q1 (q.length - kk) (d - kk) := hV 13 (by kernel_rfl)
        have e46 : ρ (.tmp 46) = vs 13 := by rw [← hρ]; kernel_rfl
        rw [d46] at e46; clear d46
        clear hρ hV
        refine runs_val (v := .slice (some ⟨w.heap.size, 0, none⟩) 2 2) (w' := w.alloc (.cells #[.slice Q kk d, .slice Q1 (q.length - kk) (d - kk)] 22)) ?_ ⟨below_alloc (Below.refl _ _) _, _, rfl, C_of_two (heap_alloc_new _ _) (Kd.C_alloc (HK2.out _ _ (Kd.C_below HCV.out hb)) _) (by omega) (Kd.C_alloc (HK1.out _ _ (Kd.C_below HCV.out hb)) _) (by omega)⟩
        go_simp
      case r13_1o15 =>
        intro vs w hb hV
        rw [if_pos (by kernel_rfl)]
        generalize hρ : rho _ _ _ vs = ρ
        have d40 : (vs 7) = .agg T := hV 7 (by kernel_rfl)
        have e40 : ρ (.tmp 40) = vs 7 := by rw [← hρ]; kernel_rfl
        rw [d40] at e40; clear d40
        have d47 : (fun (w : World) (v : Value) => ∃ A, v = .slice A 2 2 ∧ (Kd.slice 5 (Kd.int .u8)).C w A 2 [q.take kk, q.drop kk]) w (vs 14) := hV 14 (by kernel_rfl)
        have e47 : ρ (.tmp 47) = vs 14 := by rw [← hρ]; kernel_rfl
        obtain ⟨A1, h1, hC1⟩ := d47
        have ef13 : ρ (.func 13) = .func (.func 13) #[] #[] := by rw [← hρ]; rfl
        clear hρ hV
        rw [h1] at e47
        refine runs_call (f := 13) (args := #[.agg T, .slice A1 2 2]) (w' := w) ?_ ?_
        · go_simp
        · refine (sum_any tab T _ _ _ [q.take kk, q.drop kk] m _ HT.out hC1 HP.out.1 HP.out.2.1).mono ?_
          rintro e w5 ⟨rfl, hb5⟩
          exact ⟨_, rfl, hb5, rfl⟩
      case r13_1o16 =>
        intro vs w hb hV
        rw [if_pos (by kernel_rfl)]
        generalize hρ : rho _ _ _ vs = ρ
        have e10 : ρ (.tmp 10) = .int .u32 m := by rw [← hρ]; kernel_rfl
        clear hρ hV
        refine runs_val (v := .int .u32 m) (w' := w) ?_ ⟨Below.refl _ _, rfl⟩
        go_simp
      case r13_1o17 =>
        intro vs w hb hV
        rw [if_pos (by kernel_rfl)]
        generalize hρ : rho _ _ _ vs = ρ
        have d48 : (vs 15) = .int .u32 m := hV 15 (by kernel_rfl)
        have e48 : ρ (.tmp 48) = vs 15 := by rw [← hρ]; kernel_rfl
        rw [d48] at e48; clear d48
        have d49 : (vs 16) = .int .u32 m := hV 16 (by kernel_rfl)
        have e49 : ρ (.tmp 49) = vs 16 := by rw [← hρ]; kernel_rfl
        rw [d49] at e49; clear d49
        clear hρ hV
        refine runs_val (v := .bool true) (w' := w) ?_ ⟨Below.refl _ _, rfl⟩
        go_simp
      case r13_1o18 =>
        intro vs w hb hV
        rw [if_pos (by kernel_rfl)]
        generalize hρ : rho _ _ _ vs = ρ
        have d39 : (vs 6) = .bool true := hV 6 (by kernel_rfl)
        have e39 : ρ (.tmp 39) = vs 6 := by rw [← hρ]; kernel_rfl
        rw [d39] at e39; clear d39
        have d50 : (vs 17) = .bool true := hV 17 (by kernel_rfl)
        have e50 : ρ (.tmp 50) = vs 17 := by rw [← hρ]; kernel_rfl
        rw [d50] at e50; clear d50
        have econ : ∀ v : Value, ρ (.const v) = v := fun v => by rw [← hρ]; rfl
        clear hρ hV
        refine runs_val (v := .bool true) (w' := w) ?_ ⟨Below.refl _ _, rfl⟩
        go_simp
      case r13_1o19 =>
        intro vs w hb hV
        rw [if_pos (by kernel_rfl)]
        generalize hρ : rho _ _ _ vs = ρ
        have d51 : (vs 18) = .bool true := hV 18 (by kernel_rfl)
        have e51 : ρ (.tmp 51) = vs 18 := by rw [← hρ]; kernel_rfl
        clear hρ hV
        refine runs_val (v := vs 18) (w' := w) ?_ ⟨Below.refl _ _, d51⟩
        go_simp
      case r13_1o20 =>
        intro vs w hb hV
        rw [if_pos (by kernel_rfl)]
        generalize hρ : rho _ _ _ vs = ρ
        have e7 : ρ (.tmp 7) = .int .u32 s1 := by rw [← hρ]; kernel_rfl
        clear hρ hV
        refine runs_val (v := .int .u32 s1) (w' := w) ?_ ⟨Below.refl _ _, rfl⟩
        go_simp
      case r13_1o21 =>
        intro vs w hb hV
        rw [if_pos (by kernel_rfl)]
        generalize hρ : rho _ _ _ vs = ρ
        have d53 : (vs 20) = .int .u32 s1 := hV 20 (by kernel_rfl)
        have e53 : ρ (.tmp 53) = vs 20 := by rw [← hρ]; kernel_rfl
        rw [d53] at e53; clear d53
        clear hρ hV
        refine runs_val (v := .int .u32 m) (w' := w) ?_ ⟨Below.refl _ _, rfl⟩
        go_simp
        exact hfl
      case r13_1o22 =>
        intro vs w hb hV
        rw [if_pos (by kernel_rfl)]
        generalize hρ : rho _ _ _ vs = ρ
        have e10 : ρ (.tmp 10) = .int .u32 m := by rw [← hρ]; kernel_rfl
        clear hρ hV
        refine runs_val (v := .int .u32 m) (w' := w) ?_ ⟨Below.refl _ _, rfl⟩
        go_simp
      case r13_1o23 =>
        intro vs w hb hV
        rw [if_pos (by kernel_rfl)]
        generalize hρ : rho _ _ _ vs = ρ
        have d54 : (vs 21) = .int .u32 m := hV 21 (by kernel_rfl)
        have e54 : ρ (.tmp 54) = vs 21 := by rw [← hρ]; kernel_rfl
        rw [d54] at e54; clear d54
        have d55 : (vs 22) = .int .u32 m := hV 22 (by kernel_rfl)
        have e55 : ρ (.tmp 55) = vs 22 := by rw [← hρ]; kernel_rfl
        rw [d55] at e55; clear d55
        clear hρ hV
        refine runs_val (v := .bool true) (w' := w) ?_ ⟨Below.refl _ _, rfl⟩
        go_simp
      case r13_1o24 =>
        intro vs w hb hV
        rw [if_pos (by kernel_rfl)]
        generalize hρ : rho _ _ _ vs = ρ
        have d52 : (vs 19) = .bool true := hV 19 (by kernel_rfl)
        have e52 : ρ (.tmp 52) = vs 19 := by rw [← hρ]; kernel_rfl
        rw [d52] at e52; clear d52
        have d56 : (vs 23) = .bool true := hV 23 (by kernel_rfl)
        have e56 : ρ (.tmp 56) = vs 23 := by rw [← hρ]; kernel_rfl
        rw [d56] at e56; clear d56
        have econ : ∀ v : Value, ρ (.const v) = v := fun v => by rw [← hρ]; rfl
        clear hρ hV
        refine runs_val (v := .bool true) (w' := w) ?_ ⟨Below.refl _ _, rfl⟩
        go_simp
      case r13_1o25 =>
        intro vs w hb hV
        rw [if_pos (by kernel_rfl)]
        generalize hρ : rho _ _ _ vs = ρ
        have d57 : (vs 24) = .bool true := hV 24 (by kernel_rfl)
        have e57 : ρ (.tmp 57) = vs 24 := by rw [← hρ]; kernel_rfl
        clear hρ hV
        refine runs_val (v := vs 24) (w' := w) ?_ ⟨Below.refl _ _, d57⟩
        go_simp
      case r13_1o26 =>
        intro vs w hb hV
        rw [if_pos (by kernel_rfl)]
        generalize hρ : rho _ _ _ vs = ρ
        have e5 : ρ (.tmp 5) = .pointer (some ⟨g, 0, none⟩) := by rw [← hρ]; kernel_rfl
        clear hρ hV
        exact runs_load 28 (.tmp 5) rfl g e5 28 T (0, 0) _ ((hb.block g (blk_lt HGV.out)).trans HGV.out) Try.underlying28 rfl Hsz.out ⟨Below.refl _ _, rfl⟩
      case r13_1o27 =>
        intro vs w hb hV
        rw [if_pos (by kernel_rfl)]
        generalize hρ : rho _ _ _ vs = ρ
        have d59 : (vs 26) = .agg T := hV 26 (by kernel_rfl)
        have e59 : ρ (.tmp 59) = vs 26 := by rw [← hρ]; kernel_rfl
        rw [d59] at e59; clear d59
        have ef13 : ρ (.func 13) = .func (.func 13) #[] #[] := by rw [← hρ]; rfl
        have econ : ∀ v : Value, ρ (.const v) = v := fun v => by rw [← hρ]; rfl
        clear hρ hV
        refine runs_call (f := 13) (args := #[.agg T, .slice none 0 0]) (w' := w) ?_ ?_
        · go_simp
        · refine (sum_any tab T _ _ _ [] 0 _ HT.out (Kd.C_nil _ _) (fun p hp => by cases hp) h0).mono ?_
          rintro e w5 ⟨rfl, hb5⟩
          exact ⟨_, rfl, hb5, rfl⟩
      case r13_1o28 =>
        intro vs w hb hV
        rw [if_pos (by kernel_rfl)]
        generalize hρ : rho _ _ _ vs = ρ
        have d60 : (vs 27) = .int .u32 0 := hV 27 (by kernel_rfl)
        have e60 : ρ (.tmp 60) = vs 27 := by rw [← hρ]; kernel_rfl
        rw [d60] at e60; clear d60
        have econ : ∀ v : Value, ρ (.const v) = v := fun v => by rw [← hρ]; rfl
        clear hρ hV
        refine runs_val (v := .bool true) (w' := w) ?_ ⟨Below.refl _ _, rfl⟩
        go_simp
      case r13_1o29 =>
        intro vs w hb hV
        rw [if_pos (by kernel_rfl)]
        generalize hρ : rho _ _ _ vs = ρ
        have d58 : (vs 25) = .bool true := hV 25 (by kernel_rfl)
        have e58 : ρ (.tmp 58) = vs 25 := by rw [← hρ]; kernel_rfl
        rw [d58] at e58; clear d58
        have d61 : (vs 28) = .bool true := hV 28 (by kernel_rfl)
        have e61 : ρ (.tmp 61) = vs 28 := by rw [← hρ]; kernel_rfl
        rw [d61] at e61; clear d61
        have econ : ∀ v : Value, ρ (.const v) = v := fun v => by rw [← hρ]; rfl
        clear hρ hV
        refine runs_val (v := .bool true) (w' := w) ?_ ⟨Below.refl _ _, rfl⟩
        go_simp
      case r13_1o30 =>
        intro vs w hb hV
        rw [if_pos (by kernel_rfl)]
        generalize hρ : rho _ _ _ vs = ρ
        have d62 : (vs 29) = .bool true := hV 29 (by kernel_rfl)
        have e62 : ρ (.tmp 62) = vs 29 := by rw [← hρ]; kernel_rfl
        clear hρ hV
        refine runs_val (v := vs 29) (w' := w) ?_ ⟨Below.refl _ _, d62⟩
        go_simp
      case r13_1e =>
        intro vs V2 hb2 hV
        have d33 : (vs 0) = .agg T := hV 0 (Nat.le_of_ble_eq_true rfl)
        have d34 : (vs 1) = .slice Q q.length d := hV 1 (Nat.le_of_ble_eq_true rfl)
        have d35 : (fun (w : World) (v : Value) => ∃ A, v = .slice A 1 1 ∧ (Kd.slice 5 (Kd.int .u8)).C w A 1 [q]) V2 (vs 2) := hV 2 (Nat.le_of_ble_eq_true rfl)
        have d36 : (vs 3) = .int .u32 m := hV 3 (Nat.le_of_ble_eq_true rfl)
        have d37 : (vs 4) = .int .u32 m := hV 4 (Nat.le_of_ble_eq_true rfl)
        have d38 : (vs 5) = .bool true := hV 5 (Nat.le_of_ble_eq_true rfl)
        have d39 : (vs 6) = .bool true := hV 6 (Nat.le_of_ble_eq_true rfl)
        have d40 : (vs 7) = .agg T := hV 7 (Nat.le_of_ble_eq_true rfl)
        have d41 : (vs 8) = .slice Q q.length d := hV 8 (Nat.le_of_ble_eq_true rfl)
        have d42 : (vs 9) = .int .i64 kk := hV 9 (Nat.le_of_ble_eq_true rfl)
        have d43 : (vs 10) = .slice Q kk d := hV 10 (Nat.le_of_ble_eq_true rfl)
        have d44 : (vs 11) = .slice Q q.length d := hV 11 (Nat.le_of_ble_eq_true rfl)
        have d45 : (vs 12) = .int .i64 kk := hV 12 (Nat.le_of_ble_eq_true rfl)
        have d46 : (vs 13) = .slice Q1 (q.length - kk) (d - kk) := hV 13 (Nat.le_of_ble_eq_true rfl)
        have d47 : (fun (w : World) (v : Value) => ∃ A, v = .slice A 2 2 ∧ (Kd.slice 5 (Kd.int .u8)).C w A 2 [q.take kk, q.drop kk]) V2 (vs 14) := hV 14 (Nat.le_of_ble_eq_true rfl)
        have d48 : (vs 15) = .int .u32 m := hV 15 (Nat.le_of_ble_eq_true rfl)
        have d49 : (vs 16) = .int .u32 m := hV 16 (Nat.le_of_ble_eq_true rfl)
        have d50 : (vs 17) = .bool true := hV 17 (Nat.le_of_ble_eq_true rfl)
        have d51 : (vs 18) = .bool true := hV 18 (Nat.le_of_ble_eq_true rfl)
        have d52 : (vs 19) = .bool true := hV 19 (Nat.le_of_ble_eq_true rfl)
        have d53 : (vs 20) = .int .u32 s1 := hV 20 (Nat.le_of_ble_eq_true rfl)
        have d54 : (vs 21) = .int .u32 m := hV 21 (Nat.le_of_ble_eq_true rfl)
        have d55 : (vs 22) = .int .u32 m := hV 22 (Nat.le_of_ble_eq_true rfl)
        have d56 : (vs 23) = .bool true := hV 23 (Nat.le_of_ble_eq_true rfl)
        have d57 : (vs 24) = .bool true := hV 24 (Nat.le_of_ble_eq_true rfl)
        have d58 : (vs 25) = .bool true := hV 25 (Nat.le_of_ble_eq_true rfl)
        have d59 : (vs 26) = .agg T := hV 26 (Nat.le_of_ble_eq_true rfl)
        have d60 : (vs 27) = .int .u32 0 := hV 27 (Nat.le_of_ble_eq_true rfl)
        have d61 : (vs 28) = .bool true := hV 28 (Nat.le_of_ble_eq_true rfl)
        have d62 : (vs 29) = .bool true := hV 29 (Nat.le_of_ble_eq_true rfl)
        have d4 : (vs 30) = .bool true := hV 30 (Nat.le_of_ble_eq_true rfl)
        clear hV
        simp only [putAll]
        rw [d33, d34, d36, d37, d38, d39, d40, d41, d42, d43, d44, d45, d46, d48, d49, d50, d51, d52, d53, d54, d55, d56, d57, d58, d59, d60, d61, d62, d4]
        clear d33 d34 d36 d37 d38 d39 d40 d41 d42 d43 d44 d45 d46 d48 d49 d50 d51 d52 d53 d54 d55 d56 d57 d58 d59 d60 d61 d62 d4
        generalize vs 2 = v35 at *
        generalize vs 14 = v47 at *
        clear vs
        simp only [Act.put, List.setIfInBounds_toArray, List.set_cons_zero, List.set_cons_succ]
        have HB2 := Aside0.mk (below_step HBV.out hb2)
        clear hb2
        go_wp2
        go_ret
        exact ⟨rfl, HB2.out⟩

end Go.Proofs.Ytadodibnjdeckaa
