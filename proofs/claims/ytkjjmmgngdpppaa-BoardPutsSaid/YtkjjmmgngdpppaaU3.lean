/- The walk of BoardPuts. -/
import Derived.Test.YtkjjmmgngdpppaaUo
import Derived.Test.YtkjjmmgngdpppaaO
import Derived.Deep.RegionHeld3
namespace Go.Proofs.Ytkjjmmgngdpppaa
open Go.RowKit Go.Proofs.YtkjjmmgngdpppaaW.PrintWords Go.Proofs.YtkjjmmgngdpppaaW.PrintLast Go.Proofs.YtkjjmmgngdpppaaW.PrintMore
set_option linter.unusedVariables false
set_option linter.unusedSimpArgs false

theorem listF_fL (M : List S25) : listF (fL M) M.length = M := by
  unfold listF fL
  apply List.ext_getElem
  · simp
  · intro j h1 h2
    simp [List.getD_eq_getElem?_getD, h2]
theorem listF_put (M : List S25) (j : Nat) (c : S25) : listF (putF (fL M) j c) M.length = M.set j c := by
  apply List.ext_getElem
  · simp [listF]
  · intro i h1 h2
    have hi : i < M.length := by simpa [listF] using h1
    simp only [listF, List.getElem_map, List.getElem_range, putF, List.getElem_set]
    by_cases e : i = j
    · rw [if_pos e, if_pos e.symm]
    · rw [if_neg e, if_neg (fun h => e h.symm)]
      unfold fL
      rw [List.getD_eq_getElem?_getD, List.getElem?_eq_getElem hi]; rfl
theorem map_set {α β : Type} (g : α → β) (l : List α) (j : Nat) (c : α) : (l.map g).set j (g c) = (l.set j c).map g := by rw [List.map_set]
theorem cell_at25 {w : World} {A : Option Addr} {n : Nat} {x : List S25} (h : k25.C w A n x) {j : Nat} (hj : j < x.length) : ∃ ad, A = some ad ∧ w.cell? (ad.add (j * 2)) = some (.int .i32 x[j].f0) ∧ w.cell? ⟨(ad.add (j * 2)).block, (ad.add (j * 2)).off + 1, none⟩ = some (.int .u32 x[j].f1) := by
  have := at_T25 h (j : Int) (by omega) (by have := h.1; omega)
  rw [rdT25_get hj, Int.toNat_natCast] at this
  exact this
theorem fL_get {M : List S25} {j : Nat} (hj : j < M.length) : fL M j = M[j] := by unfold fL; rw [List.getD_eq_getElem?_getD, List.getElem?_eq_getElem hj]; rfl
set_option maxRecDepth 100000 in
set_option maxHeartbeats 8000000 in
theorem puts_walk (A : Option Addr) (n c : Nat) (L : List S25) (i : Int) (q0 q1 : Int) (tm : Int) (w : World) (hr : k25.C w A n L) (hc : n ≤ c) (hw : ∀ x ∈ L, OkC x) (hI : I64 i) (hT : U32 tm) :
    Calls Try.prog 5 #[.slice A n c, .int .i64 i, .agg #[.int .i32 q0, .int .u32 q1], .int .u32 tm] w fun e w' => e = .returned (.bool true) ∧ Below w.heap.size w w' := by
  clear hw hT
  have HR := Aside0.mk hr
  have HCAP := Aside0.mk hc
  have hz := zero_board
  have HI := fun f m => Aside0.mk (board_info f m)
  have HO := fun f m => Aside0.mk (boardC_one f m)
  clear hr hc
  go_enter Try.func5, Try.ntmps5
  go_wp2_with fail
  refine (awake_any _).mono ?_
  rintro e w1 ⟨rfl, hb1⟩
  have HP1 := Aside0.mk (((Hp.start w).alloc (.cells #[.int .i32 q0, .int .u32 q1] 25)).call hb1)
  have HR1 := Aside0.mk (Kd.C_below (Kd.C_alloc HR.out _) hb1)
  clear hb1 HR
  go_wp2_with fail
  refine (few_any _ _ _ L _ HR1.out HCAP.out).mono ?_
  rintro e w2 ⟨v2, rfl, hv2, hb2⟩
  have h48 : (L.take 48).length ≤ 48 := List.length_take_le _ _
  obtain ⟨M, hM⟩ : ∃ M, L.take 48 = M := ⟨_, rfl⟩
  rw [hM] at hv2 h48
  have HM := Aside0.mk hM
  obtain ⟨m, hm⟩ : ∃ m, M.length = m := ⟨_, rfl⟩
  obtain ⟨Q, d, hv, hd, hC⟩ := Kd.R_reads hv2
  rw [hm] at hv hd hC h48
  subst hv
  have HP2 := Aside0.mk (HP1.out.row hb2 hv2)
  have HC2 := Aside0.mk hC
  have HMD := Aside0.mk hd
  have HML := Aside0.mk hm
  have H48 := Aside0.mk h48
  clear hb2 hv2 hd hC hM hm HP1 HR1 HCAP
  go_wp2_with fail
  refine (new_any Q m d M _ HC2.out HMD.out H48.out).mono ?_
  rintro e w3 ⟨rfl, hb3⟩
  have HP3 := Aside0.mk (HP2.out.call hb3)
  obtain ⟨f, hf⟩ : ∃ f, fL M = f := ⟨_, rfl⟩
  rw [hf]
  have HF := Aside0.mk hf
  clear hb3 HP2 HC2 hf
  by_cases hi : 0 ≤ i ∧ i < m
  · obtain ⟨j, rfl⟩ : ∃ j : Nat, i = j := ⟨i.toNat, by omega⟩
    have hjm : j < m := by omega
    obtain ⟨fr, hfr⟩ : ∃ fr, (bits .andNot .u32 tm (f j).f1 != 0) = fr := ⟨_, rfl⟩
    have KS : Aside0 (∀ X : World, Calls Try.prog 16 #[.agg (boardC f m), .int .i64 j, .int .u32 tm] X fun e w' => e = .returned (.tuple #[.agg (boardC (showF f j tm) m), .bool fr, .int .i64 0]) ∧ Below X.heap.size X w') := ⟨fun X => by have := show_any f m j tm X hjm H48.out; rw [show (!withinB tm (f j).f1) = fr from hfr] at this; exact this⟩
    have KP := Aside0.mk (fun X : World => put_any f m j ⟨q0, q1⟩ X hjm H48.out)
    have HFR := Aside0.mk hfr
    have HJ := Aside0.mk hjm
    have hj0 : ¬ (j : Int) < 0 := by omega
    have hj1 : ¬ (m : Int) ≤ (j : Int) := by omega
    have d1 : decide ((j : Int) < 0) = false := decide_eq_false hj0
    have d2 : decide ((m : Int) ≤ (j : Int)) = false := decide_eq_false hj1
    have d3 : decide (m ≤ j) = false := decide_eq_false (by omega)
    clear hi hjm hfr
    have HZ := Aside0.mk (blk_new w3 (.cells (boardC (fun _ => z25) 0) 30))
    have HP4 := Aside0.mk ((HP3.out.alloc (.cells (boardC (fun _ => z25) 0) 30)).setRow (i := 0) rfl (boardC f m))
    clear HP3
    go_wp2_with (first | (refine wpList_store_row rfl 30 (.tmp 9) (.tmp 26) rfl (w3.heap.size) (boardC f m) rfl rfl 30 _ HZ.out (HI _ _).out (by rw [boardC_size, boardC_size]) (HO _ _).out ?_))
    clear HZ
    generalize (w3.alloc (.cells (boardC (fun _ => z25) 0) 30)).setRow w3.heap.size (boardC f m) = w4 at *
    generalize w3.heap.size = ga at *
    have HC4 := Aside0.mk (Ru_C (HP4.out.fact (i := 0) rfl)).2.2
    refine (own_any Q m d M _ HC4.out HMD.out (by have := H48.out; omega)).mono ?_
    rintro e w5 ⟨vx, rfl, hvx, hbx⟩
    obtain ⟨Qx, dx, hvq, hdx, hCx⟩ := Kd.R_reads hvx
    rw [List.length_map, HML.out] at hvq hdx hCx
    subst hvq
    have HP5 := Aside0.mk (HP4.out.row hbx hvx)
    have HDX := Aside0.mk hdx
    have q0' := blk_cell (HP5.out.get (i := 1) rfl) 0
    have q1' := blk_cell (HP5.out.get (i := 1) rfl) 1
    clear hvx hbx hdx hCx HP4 HC4
    go_wp2_with (first | (refine wpList_load_row_g 30 (.tmp 9) rfl (ga) rfl rfl 30 _ (0, 0) _ (HP5.out.get (i := 0) rfl) Try.underlying30 rfl (HI _ _).out ?_))
    refine (KP.out _).mono ?_
    rintro e w6 ⟨rfl, hb6⟩
    have HP6 := Aside0.mk (HP5.out.call hb6)
    clear hb6 HP5 KP q0' q1'
    have HZ := Aside0.mk (blk_new w6 (.cells (boardC (fun _ => z25) 0) 30))
    have HP7 := Aside0.mk ((HP6.out.alloc (.cells (boardC (fun _ => z25) 0) 30)).setRow (i := 0) rfl (boardC (putF f j ⟨q0, q1⟩) m))
    clear HP6
    go_wp2_with (first | (refine wpList_store_row rfl 30 (.tmp 12) (.tmp 35) rfl (w6.heap.size) (boardC (putF f j ⟨q0, q1⟩) m) rfl rfl 30 _ HZ.out (HI _ _).out (by rw [boardC_size, boardC_size]) (HO _ _).out ?_) | (refine wpList_load_row_g 30 (.tmp 9) rfl (ga) rfl rfl 30 _ (0, 0) _ (HP7.out.get (i := 1) rfl) Try.underlying30 rfl (HI _ _).out ?_))
    clear HZ
    generalize (w6.alloc (.cells (boardC (fun _ => z25) 0) 30)).setRow w6.heap.size (boardC (putF f j ⟨q0, q1⟩) m) = w7 at *
    generalize w6.heap.size = gd at *
    refine (KS.out _).mono ?_
    rintro e w8 ⟨rfl, hb8⟩
    have HP8 := Aside0.mk (HP7.out.call hb8)
    clear hb8 HP7 KS
    have q0' := blk_cell (HP8.out.get (i := 2) rfl) 0
    have q1' := blk_cell (HP8.out.get (i := 2) rfl) 1
    have HP9x := HP8
    clear HP9x
    have HZ := Aside0.mk (blk_new w8 (.cells (boardC (fun _ => z25) 0) 30))
    have HP9 := Aside0.mk ((HP8.out.alloc (.cells (boardC (fun _ => z25) 0) 30)).setRow (i := 0) rfl (boardC (showF f j tm) m))
    clear HP8 q0' q1'
    have q0' := blk_cell (HP9.out.get (i := 3) rfl) 0
    have q1' := blk_cell (HP9.out.get (i := 3) rfl) 1
    go_wp2_with (first | (refine wpList_store_row rfl 30 (.tmp 14) (.tmp 42) rfl (w8.heap.size) (boardC (showF f j tm) m) rfl rfl 30 _ HZ.out (HI _ _).out (by rw [boardC_size, boardC_size]) (HO _ _).out ?_))
    clear HZ q0' q1'
    generalize (w8.alloc (.cells (boardC (fun _ => z25) 0) 30)).setRow w8.heap.size (boardC (showF f j tm) m) = w9 at *
    generalize w8.heap.size = gs at *
    have HX9 := Aside0.mk (Ru_C (HP9.out.fact (i := 0) rfl)).2.2
    have KR := Aside0.mk (refput_any Qx m dx _ j ⟨q0, q1⟩ _ HX9.out HDX.out (by have := H48.out; omega) HJ.out)
    refine KR.out.mono ?_
    rintro e w10 ⟨vy, rfl, hvy, hby⟩
    obtain ⟨Qy, dy, hvq, hdy, hCy⟩ := Kd.R_reads hvy
    rw [List.length_set, List.length_map, HML.out] at hvq hdy hCy
    subst hvq
    have HP10 := Aside0.mk (HP9.out.row hby hvy)
    clear hvy hby hdy hCy HP9 HX9 KR
    have hjM : j < M.length := by rw [HML.out]; exact HJ.out
    obtain ⟨ad, hq, l0, l1⟩ := cell_at25 (Ru_C (HP10.out.fact (i := 2) rfl)).2.2 hjM
    have hfj : M[j] = f j := by rw [← HF.out, fL_get hjM]
    rw [hfj] at l0 l1
    have HLJ := Aside0.mk (And.intro l0 l1)
    subst hq
    have hj48 : (j : Int) < m := by have := HJ.out; omega
    have hj00 : (0 : Int) ≤ j := by omega
    clear l0 l1 hfj
    go_wp2_with fail
    refine region_grown (W := w10)
      [fun (w : World) (v : Value) => v = .slice Qx m dx,
   fun (w : World) (v : Value) => v = .int .i64 j,
   fun (w : World) (v : Value) => v = .slice (some ad) m d,
   fun (w : World) (v : Value) => v = .int .i64 j,
   fun (w : World) (v : Value) => v = .pointer (some (ad.add (j * 2))),
   fun (w : World) (v : Value) => v = .pointer (some (ad.add (j * 2))),
   fun (w : World) (v : Value) => v = .int .i32 (f j).f0,
   fun (w : World) (v : Value) => v = .slice (some ad) m d,
   fun (w : World) (v : Value) => v = .int .i64 j,
   fun (w : World) (v : Value) => v = .pointer (some (ad.add (j * 2))),
   fun (w : World) (v : Value) => v = .pointer (some ⟨(ad.add (j * 2)).block, (ad.add (j * 2)).off + 1, none⟩),
   fun (w : World) (v : Value) => v = .int .u32 (f j).f1,
   fun (w : World) (v : Value) => v = .int .u32 tm,
   fun (w : World) (v : Value) => v = .int .u32 (bits .or .u32 (f j).f1 tm),
   fun (w : World) (v : Value) => v = .agg #[.int .i32 (f j).f0, .int .u32 (bits .or .u32 (f j).f1 tm)],
   fun (w : World) (v : Value) => ∃ Az cz, v = .slice Az m cz ∧ k52.R 52 w w10.heap.size (fun _ => True) v ((M.map toR).set j ⟨(f j).f0, bits .or .u32 (f j).f1 tm⟩),
   fun (w : World) (v : Value) => ∃ Az cz, v = .slice Az m cz ∧ k52.R 52 w w10.heap.size (fun _ => True) v ((M.map toR).set j ⟨(f j).f0, bits .or .u32 (f j).f1 tm⟩)]
      (fun j =>  none)
      [(0, some 81), (1, some 82), (2, some 83), (3, some 84), (4, some 85), (5, some 86), (6, some 87), (7, some 88), (8, some 89), (9, some 90), (10, some 91), (11, some 92), (12, some 93), (13, some 94), (14, some 95), (15, some 96), (16, some 18)]
      []
      (by kernel_rfl) (by kernel_rfl) (by kernel_rfl) (by kernel_rfl) ?r11_1g ?r11_1s ⟨?r11_1o0, ?r11_1o1, ?r11_1o2, ?r11_1o3, ?r11_1o4, ?r11_1o5, ?r11_1o6, ?r11_1o7, ?r11_1o8, ?r11_1o9, ?r11_1o10, ?r11_1o11, ?r11_1o12, ?r11_1o13, ?r11_1o14, ?r11_1o15, ?r11_1o16, trivial⟩ ?r11_1e
    case r11_1g =>
      intro j hj; cases hj
    case r11_1s =>
      refine ⟨(fun w w' v hb h => h), (fun w w' v hb h => h), (fun w w' v hb h => h), (fun w w' v hb h => h), (fun w w' v hb h => h), (fun w w' v hb h => h), (fun w w' v hb h => h), (fun w w' v hb h => h), (fun w w' v hb h => h), (fun w w' v hb h => h), (fun w w' v hb h => h), (fun w w' v hb h => h), (fun w w' v hb h => h), (fun w w' v hb h => h), (fun w w' v hb h => h), (fun w w' v hb h => let ⟨Az, cz, h1, h2⟩ := h; ⟨Az, cz, h1, Kd.R_below h2 hb⟩), (fun w w' v hb h => let ⟨Az, cz, h1, h2⟩ := h; ⟨Az, cz, h1, Kd.R_below h2 hb⟩), trivial⟩
    case r11_1o0 =>
      intro vs w hb hV
      rw [if_pos (by kernel_rfl)]
      generalize hρ : rho _ _ _ vs = ρ
      have e11 : ρ (.tmp 11) = .slice Qx m dx := by rw [← hρ]; kernel_rfl
      clear hρ hV
      refine runs_val (v := .slice Qx m dx) (w' := w) ?_ ⟨Below.refl _ _, rfl⟩
      go_simp <;> (first | exact IntWalk.u64_in _ (by omega) | exact IntWalk.u32_in _ (by omega) | exact IntWalk.u16_in _ (by omega) | exact IntWalk.u8_in _ (by omega) | exact IntWalk.i64_in _ (by omega) | skip)
    case r11_1o1 =>
      intro vs w hb hV
      rw [if_pos (by kernel_rfl)]
      generalize hρ : rho _ _ _ vs = ρ
      have e1 : ρ (.tmp 1) = .int .i64 j := by rw [← hρ]; kernel_rfl
      clear hρ hV
      refine runs_val (v := .int .i64 j) (w' := w) ?_ ⟨Below.refl _ _, rfl⟩
      go_simp <;> (first | exact IntWalk.u64_in _ (by omega) | exact IntWalk.u32_in _ (by omega) | exact IntWalk.u16_in _ (by omega) | exact IntWalk.u8_in _ (by omega) | exact IntWalk.i64_in _ (by omega) | skip)
    case r11_1o2 =>
      intro vs w hb hV
      rw [if_pos (by kernel_rfl)]
      generalize hρ : rho _ _ _ vs = ρ
      have e0 : ρ (.tmp 0) = .slice (some ad) m d := by rw [← hρ]; kernel_rfl
      clear hρ hV
      refine runs_val (v := .slice (some ad) m d) (w' := w) ?_ ⟨Below.refl _ _, rfl⟩
      go_simp <;> (first | exact IntWalk.u64_in _ (by omega) | exact IntWalk.u32_in _ (by omega) | exact IntWalk.u16_in _ (by omega) | exact IntWalk.u8_in _ (by omega) | exact IntWalk.i64_in _ (by omega) | skip)
    case r11_1o3 =>
      intro vs w hb hV
      rw [if_pos (by kernel_rfl)]
      generalize hρ : rho _ _ _ vs = ρ
      have e1 : ρ (.tmp 1) = .int .i64 j := by rw [← hρ]; kernel_rfl
      clear hρ hV
      refine runs_val (v := .int .i64 j) (w' := w) ?_ ⟨Below.refl _ _, rfl⟩
      go_simp <;> (first | exact IntWalk.u64_in _ (by omega) | exact IntWalk.u32_in _ (by omega) | exact IntWalk.u16_in _ (by omega) | exact IntWalk.u8_in _ (by omega) | exact IntWalk.i64_in _ (by omega) | skip)
    case r11_1o4 =>
      intro vs w hb hV
      rw [if_pos (by kernel_rfl)]
      generalize hρ : rho _ _ _ vs = ρ
      have d83 : (vs 2) = .slice (some ad) m d := hV 2 (by kernel_rfl)
      have e83 : ρ (.tmp 83) = vs 2 := by rw [← hρ]; kernel_rfl
      rw [d83] at e83; clear d83
      have d84 : (vs 3) = .int .i64 j := hV 3 (by kernel_rfl)
      have e84 : ρ (.tmp 84) = vs 3 := by rw [← hρ]; kernel_rfl
      rw [d84] at e84; clear d84
      clear hρ hV
      refine runs_val (v := .pointer (some (ad.add (j * 2)))) (w' := w) ?_ ⟨Below.refl _ _, rfl⟩
      go_simp <;> (first | exact IntWalk.u64_in _ (by omega) | exact IntWalk.u32_in _ (by omega) | exact IntWalk.u16_in _ (by omega) | exact IntWalk.u8_in _ (by omega) | exact IntWalk.i64_in _ (by omega) | skip)
    case r11_1o5 =>
      intro vs w hb hV
      rw [if_pos (by kernel_rfl)]
      generalize hρ : rho _ _ _ vs = ρ
      have d85 : (vs 4) = .pointer (some (ad.add (j * 2))) := hV 4 (by kernel_rfl)
      have e85 : ρ (.tmp 85) = vs 4 := by rw [← hρ]; kernel_rfl
      rw [d85] at e85; clear d85
      clear hρ hV
      refine runs_val (v := .pointer (some (ad.add (j * 2)))) (w' := w) ?_ ⟨Below.refl _ _, rfl⟩
      go_simp <;> (first | exact IntWalk.u64_in _ (by omega) | exact IntWalk.u32_in _ (by omega) | exact IntWalk.u16_in _ (by omega) | exact IntWalk.u8_in _ (by omega) | exact IntWalk.i64_in _ (by omega) | skip)
    case r11_1o6 =>
      intro vs w hb hV
      rw [if_pos (by kernel_rfl)]
      generalize hρ : rho _ _ _ vs = ρ
      have d86 : (vs 5) = .pointer (some (ad.add (j * 2))) := hV 5 (by kernel_rfl)
      have e86 : ρ (.tmp 86) = vs 5 := by rw [← hρ]; kernel_rfl
      rw [d86] at e86; clear d86
      clear hρ hV
      have c0 := pw_cell_below hb HLJ.out.1
      refine runs_val (v := .int .i32 (f j).f0) (w' := w) ?_ ⟨Below.refl _ _, rfl⟩
      go_simp
    case r11_1o7 =>
      intro vs w hb hV
      rw [if_pos (by kernel_rfl)]
      generalize hρ : rho _ _ _ vs = ρ
      have e0 : ρ (.tmp 0) = .slice (some ad) m d := by rw [← hρ]; kernel_rfl
      clear hρ hV
      refine runs_val (v := .slice (some ad) m d) (w' := w) ?_ ⟨Below.refl _ _, rfl⟩
      go_simp <;> (first | exact IntWalk.u64_in _ (by omega) | exact IntWalk.u32_in _ (by omega) | exact IntWalk.u16_in _ (by omega) | exact IntWalk.u8_in _ (by omega) | exact IntWalk.i64_in _ (by omega) | skip)
    case r11_1o8 =>
      intro vs w hb hV
      rw [if_pos (by kernel_rfl)]
      generalize hρ : rho _ _ _ vs = ρ
      have e1 : ρ (.tmp 1) = .int .i64 j := by rw [← hρ]; kernel_rfl
      clear hρ hV
      refine runs_val (v := .int .i64 j) (w' := w) ?_ ⟨Below.refl _ _, rfl⟩
      go_simp <;> (first | exact IntWalk.u64_in _ (by omega) | exact IntWalk.u32_in _ (by omega) | exact IntWalk.u16_in _ (by omega) | exact IntWalk.u8_in _ (by omega) | exact IntWalk.i64_in _ (by omega) | skip)
    case r11_1o9 =>
      intro vs w hb hV
      rw [if_pos (by kernel_rfl)]
      generalize hρ : rho _ _ _ vs = ρ
      have d88 : (vs 7) = .slice (some ad) m d := hV 7 (by kernel_rfl)
      have e88 : ρ (.tmp 88) = vs 7 := by rw [← hρ]; kernel_rfl
      rw [d88] at e88; clear d88
      have d89 : (vs 8) = .int .i64 j := hV 8 (by kernel_rfl)
      have e89 : ρ (.tmp 89) = vs 8 := by rw [← hρ]; kernel_rfl
      rw [d89] at e89; clear d89
      clear hρ hV
      refine runs_val (v := .pointer (some (ad.add (j * 2)))) (w' := w) ?_ ⟨Below.refl _ _, rfl⟩
      go_simp <;> (first | exact IntWalk.u64_in _ (by omega) | exact IntWalk.u32_in _ (by omega) | exact IntWalk.u16_in _ (by omega) | exact IntWalk.u8_in _ (by omega) | exact IntWalk.i64_in _ (by omega) | skip)
    case r11_1o10 =>
      intro vs w hb hV
      rw [if_pos (by kernel_rfl)]
      generalize hρ : rho _ _ _ vs = ρ
      have d90 : (vs 9) = .pointer (some (ad.add (j * 2))) := hV 9 (by kernel_rfl)
      have e90 : ρ (.tmp 90) = vs 9 := by rw [← hρ]; kernel_rfl
      rw [d90] at e90; clear d90
      clear hρ hV
      refine runs_val (v := .pointer (some ⟨(ad.add (j * 2)).block, (ad.add (j * 2)).off + 1, none⟩)) (w' := w) ?_ ⟨Below.refl _ _, rfl⟩
      go_simp <;> (first | exact IntWalk.u64_in _ (by omega) | exact IntWalk.u32_in _ (by omega) | exact IntWalk.u16_in _ (by omega) | exact IntWalk.u8_in _ (by omega) | exact IntWalk.i64_in _ (by omega) | skip)
    case r11_1o11 =>
      intro vs w hb hV
      rw [if_pos (by kernel_rfl)]
      generalize hρ : rho _ _ _ vs = ρ
      have d91 : (vs 10) = .pointer (some ⟨(ad.add (j * 2)).block, (ad.add (j * 2)).off + 1, none⟩) := hV 10 (by kernel_rfl)
      have e91 : ρ (.tmp 91) = vs 10 := by rw [← hρ]; kernel_rfl
      rw [d91] at e91; clear d91
      clear hρ hV
      have c0 := pw_cell_below hb HLJ.out.2
      refine runs_val (v := .int .u32 (f j).f1) (w' := w) ?_ ⟨Below.refl _ _, rfl⟩
      go_simp
    case r11_1o12 =>
      intro vs w hb hV
      rw [if_pos (by kernel_rfl)]
      generalize hρ : rho _ _ _ vs = ρ
      have e3 : ρ (.tmp 3) = .int .u32 tm := by rw [← hρ]; kernel_rfl
      clear hρ hV
      refine runs_val (v := .int .u32 tm) (w' := w) ?_ ⟨Below.refl _ _, rfl⟩
      go_simp <;> (first | exact IntWalk.u64_in _ (by omega) | exact IntWalk.u32_in _ (by omega) | exact IntWalk.u16_in _ (by omega) | exact IntWalk.u8_in _ (by omega) | exact IntWalk.i64_in _ (by omega) | skip)
    case r11_1o13 =>
      intro vs w hb hV
      rw [if_pos (by kernel_rfl)]
      generalize hρ : rho _ _ _ vs = ρ
      have d92 : (vs 11) = .int .u32 (f j).f1 := hV 11 (by kernel_rfl)
      have e92 : ρ (.tmp 92) = vs 11 := by rw [← hρ]; kernel_rfl
      rw [d92] at e92; clear d92
      have d93 : (vs 12) = .int .u32 tm := hV 12 (by kernel_rfl)
      have e93 : ρ (.tmp 93) = vs 12 := by rw [← hρ]; kernel_rfl
      rw [d93] at e93; clear d93
      clear hρ hV
      refine runs_val (v := .int .u32 (bits .or .u32 (f j).f1 tm)) (w' := w) ?_ ⟨Below.refl _ _, rfl⟩
      go_simp <;> (first | exact IntWalk.u64_in _ (by omega) | exact IntWalk.u32_in _ (by omega) | exact IntWalk.u16_in _ (by omega) | exact IntWalk.u8_in _ (by omega) | exact IntWalk.i64_in _ (by omega) | skip)
    case r11_1o14 =>
      intro vs w hb hV
      rw [if_pos (by kernel_rfl)]
      generalize hρ : rho _ _ _ vs = ρ
      have d87 : (vs 6) = .int .i32 (f j).f0 := hV 6 (by kernel_rfl)
      have e87 : ρ (.tmp 87) = vs 6 := by rw [← hρ]; kernel_rfl
      rw [d87] at e87; clear d87
      have d94 : (vs 13) = .int .u32 (bits .or .u32 (f j).f1 tm) := hV 13 (by kernel_rfl)
      have e94 : ρ (.tmp 94) = vs 13 := by rw [← hρ]; kernel_rfl
      rw [d94] at e94; clear d94
      clear hρ hV
      refine runs_val (v := .agg #[.int .i32 (f j).f0, .int .u32 (bits .or .u32 (f j).f1 tm)]) (w' := w) ?_ ⟨Below.refl _ _, rfl⟩
      go_simp <;> (first | exact IntWalk.u64_in _ (by omega) | exact IntWalk.u32_in _ (by omega) | exact IntWalk.u16_in _ (by omega) | exact IntWalk.u8_in _ (by omega) | exact IntWalk.i64_in _ (by omega) | skip)
    case r11_1o15 =>
      intro vs w hb hV
      rw [if_pos (by kernel_rfl)]
      generalize hρ : rho _ _ _ vs = ρ
      have d81 : (vs 0) = .slice Qx m dx := hV 0 (by kernel_rfl)
      have e81 : ρ (.tmp 81) = vs 0 := by rw [← hρ]; kernel_rfl
      rw [d81] at e81; clear d81
      have d82 : (vs 1) = .int .i64 j := hV 1 (by kernel_rfl)
      have e82 : ρ (.tmp 82) = vs 1 := by rw [← hρ]; kernel_rfl
      rw [d82] at e82; clear d82
      have d95 : (vs 14) = .agg #[.int .i32 (f j).f0, .int .u32 (bits .or .u32 (f j).f1 tm)] := hV 14 (by kernel_rfl)
      have e95 : ρ (.tmp 95) = vs 14 := by rw [← hρ]; kernel_rfl
      rw [d95] at e95; clear d95
      have ef22 : ρ (.func 22) = .func (.func 22) #[] #[] := by rw [← hρ]; rfl
      clear hρ hV
      refine runs_call (f := 22) (args := #[.slice Qx m dx, .int .i64 j, .agg #[.int .i32 (f j).f0, .int .u32 (bits .or .u32 (f j).f1 tm)]]) (w' := w) ?_ ?_
      · go_simp
      · refine (refput_any Qx m dx (M.map toR) j ⟨(f j).f0, bits .or .u32 (f j).f1 tm⟩ _ (Kd.C_below (Ru_C (HP10.out.fact (i := 1) rfl)).2.2 hb) HDX.out (by have := H48.out; omega) HJ.out).mono ?_
        rintro e w5 ⟨v, rfl, hv, hb5⟩
        obtain ⟨Az, cz, e1, _⟩ := Kd.R_reads hv
        rw [List.length_set, List.length_map, HML.out] at e1
        exact ⟨_, rfl, hb5, Az, cz, e1, Kd.R_lower hv hb.size⟩
    case r11_1o16 =>
      intro vs w hb hV
      rw [if_pos (by kernel_rfl)]
      generalize hρ : rho _ _ _ vs = ρ
      have d96 : (fun (w : World) (v : Value) => ∃ Az cz, v = .slice Az m cz ∧ k52.R 52 w w10.heap.size (fun _ => True) v ((M.map toR).set j ⟨(f j).f0, bits .or .u32 (f j).f1 tm⟩)) w (vs 15) := hV 15 (by kernel_rfl)
      have e96 : ρ (.tmp 96) = vs 15 := by rw [← hρ]; kernel_rfl
      clear hρ hV
      refine runs_val (v := vs 15) (w' := w) ?_ ⟨Below.refl _ _, d96⟩
      go_simp
    case r11_1e =>
      intro vs V2 hb2 hV
      have d81 : (vs 0) = .slice Qx m dx := hV 0 (Nat.le_of_ble_eq_true rfl)
      have d82 : (vs 1) = .int .i64 j := hV 1 (Nat.le_of_ble_eq_true rfl)
      have d83 : (vs 2) = .slice (some ad) m d := hV 2 (Nat.le_of_ble_eq_true rfl)
      have d84 : (vs 3) = .int .i64 j := hV 3 (Nat.le_of_ble_eq_true rfl)
      have d85 : (vs 4) = .pointer (some (ad.add (j * 2))) := hV 4 (Nat.le_of_ble_eq_true rfl)
      have d86 : (vs 5) = .pointer (some (ad.add (j * 2))) := hV 5 (Nat.le_of_ble_eq_true rfl)
      have d87 : (vs 6) = .int .i32 (f j).f0 := hV 6 (Nat.le_of_ble_eq_true rfl)
      have d88 : (vs 7) = .slice (some ad) m d := hV 7 (Nat.le_of_ble_eq_true rfl)
      have d89 : (vs 8) = .int .i64 j := hV 8 (Nat.le_of_ble_eq_true rfl)
      have d90 : (vs 9) = .pointer (some (ad.add (j * 2))) := hV 9 (Nat.le_of_ble_eq_true rfl)
      have d91 : (vs 10) = .pointer (some ⟨(ad.add (j * 2)).block, (ad.add (j * 2)).off + 1, none⟩) := hV 10 (Nat.le_of_ble_eq_true rfl)
      have d92 : (vs 11) = .int .u32 (f j).f1 := hV 11 (Nat.le_of_ble_eq_true rfl)
      have d93 : (vs 12) = .int .u32 tm := hV 12 (Nat.le_of_ble_eq_true rfl)
      have d94 : (vs 13) = .int .u32 (bits .or .u32 (f j).f1 tm) := hV 13 (Nat.le_of_ble_eq_true rfl)
      have d95 : (vs 14) = .agg #[.int .i32 (f j).f0, .int .u32 (bits .or .u32 (f j).f1 tm)] := hV 14 (Nat.le_of_ble_eq_true rfl)
      have d96 : (fun (w : World) (v : Value) => ∃ Az cz, v = .slice Az m cz ∧ k52.R 52 w w10.heap.size (fun _ => True) v ((M.map toR).set j ⟨(f j).f0, bits .or .u32 (f j).f1 tm⟩)) V2 (vs 15) := hV 15 (Nat.le_of_ble_eq_true rfl)
      have d18 : (fun (w : World) (v : Value) => ∃ Az cz, v = .slice Az m cz ∧ k52.R 52 w w10.heap.size (fun _ => True) v ((M.map toR).set j ⟨(f j).f0, bits .or .u32 (f j).f1 tm⟩)) V2 (vs 16) := hV 16 (Nat.le_of_ble_eq_true rfl)
      clear hV
      simp only [putAll]
      rw [d81, d82, d83, d84, d85, d86, d87, d88, d89, d90, d91, d92, d93, d94, d95]
      clear d81 d82 d83 d84 d85 d86 d87 d88 d89 d90 d91 d92 d93 d94 d95
      generalize vs 15 = v96 at *
      generalize vs 16 = v18 at *
      clear vs
      simp only [Act.put, List.setIfInBounds_toArray, List.set_cons_zero, List.set_cons_succ]
      clear d96
      obtain ⟨Qz, dz, hvz, hRz⟩ := d18
      subst hvz
      have HP11 := Aside0.mk (HP10.out.row hb2 hRz)
      clear hb2 hRz HP10
      have l0 : V2.cell? _ = _ := pw_cell_below (Below.refl V2.heap.size V2) (by
        obtain ⟨ad', hq, l0, l1⟩ := cell_at25 (Ru_C (HP11.out.fact (i := 3) rfl)).2.2 hjM
        cases hq
        exact l1)
      clear l0
      have E1 : sameL ((listF (putF f j ⟨q0, q1⟩) m).map toR) ((M.map toR).set j ⟨q0, q1⟩) = true := by
        rw [sameL_iff, ← HF.out, ← HML.out, listF_put]; exact (map_set toR M j ⟨q0, q1⟩).symm
      have E2 : sameL ((listF (showF f j tm) m).map toR) ((M.map toR).set j ⟨(f j).f0, bits .or .u32 (f j).f1 tm⟩) = true := by
        rw [sameL_iff]
        unfold showF
        rw [← HF.out, ← HML.out, listF_put]; exact (map_set toR M j _).symm
      have E3 : sameL ((listF f m).map toR) (M.map toR) = true := by rw [sameL_iff, ← HF.out, ← HML.out, listF_fL]
      have HE := Aside0.mk (And.intro E1 (And.intro E2 E3))
      clear E1 E2 E3
      go_wp2_with (first | (refine wpList_load_row_g 30 (.tmp 12) rfl (gd) rfl rfl 30 _ (0, 0) _ (HP11.out.get (i := 1) rfl) Try.underlying30 rfl (HI _ _).out ?_))
      refine (cells_any (putF f j ⟨q0, q1⟩) m _ H48.out).mono ?_
      rintro e u12 ⟨vc, rfl, hvc, hbc⟩
      obtain ⟨Qc, dc, hvq, hdc, hCc⟩ := Kd.R_reads hvc
      rw [listF_length] at hvq hdc hCc
      subst hvq
      have HP12a := Aside0.mk (HP11.out.call hbc)
      have HCc := Aside0.mk hCc
      have HDc := Aside0.mk hdc
      clear hvc hbc hCc hdc HP11
      go_wp2_with fail
      refine (own_any Qc m dc _ _ HCc.out HDc.out (by have := H48.out; omega)).mono ?_
      rintro e u12b ⟨vo, rfl, hvo, hbo⟩
      obtain ⟨Qo, dq, hvq, hdo, hCo⟩ := Kd.R_reads hvo
      rw [List.length_map, listF_length] at hvq hdo hCo
      subst hvq
      have HP12b := Aside0.mk (HP12a.out.call hbo)
      have HCo := Aside0.mk hCo
      clear hvo hbo hCo hdo HCc HDc HP12a
      have hRy := Ru_C (HP12b.out.fact (i := 1) rfl)
      have KQ := Aside0.mk (same_any Qo Qy m m dq dy _ _ _ HCo.out hRy.2.2 (by have := H48.out; omega) (by have := H48.out; omega))
      rw [HE.out.1] at KQ
      clear HCo hRy
      go_wp2_with fail
      refine KQ.out.mono ?_
      rintro e u12c ⟨rfl, nd12, rfl⟩
      have HP12 := Aside0.mk (HP12b.out.drewN nd12)
      clear KQ HP12b
      generalize u12b.drewN nd12 = w12 at *
      go_wp2_with (first | (refine wpList_load_row_g 30 (.tmp 14) rfl (gs) rfl rfl 30 _ (0, 0) _ (HP12.out.get (i := 0) rfl) Try.underlying30 rfl (HI _ _).out ?_))
      refine (cells_any (showF f j tm) m _ H48.out).mono ?_
      rintro e u13 ⟨vc, rfl, hvc, hbc⟩
      obtain ⟨Qc, dc, hvq, hdc, hCc⟩ := Kd.R_reads hvc
      rw [listF_length] at hvq hdc hCc
      subst hvq
      have HP13a := Aside0.mk (HP12.out.call hbc)
      have HCc := Aside0.mk hCc
      have HDc := Aside0.mk hdc
      clear hvc hbc hCc hdc HP12
      go_wp2_with fail
      refine (own_any Qc m dc _ _ HCc.out HDc.out (by have := H48.out; omega)).mono ?_
      rintro e u13b ⟨vo, rfl, hvo, hbo⟩
      obtain ⟨Qo, dq, hvq, hdo, hCo⟩ := Kd.R_reads hvo
      rw [List.length_map, listF_length] at hvq hdo hCo
      subst hvq
      have HP13b := Aside0.mk (HP13a.out.call hbo)
      have HCo := Aside0.mk hCo
      clear hvo hbo hCo hdo HCc HDc HP13a
      have hRy := Ru_C (HP13b.out.fact (i := 0) rfl)
      have KQ := Aside0.mk (same_any Qo Qz m m dq dz _ _ _ HCo.out hRy.2.2 (by have := H48.out; omega) (by have := H48.out; omega))
      rw [HE.out.2.1] at KQ
      clear HCo hRy
      go_wp2_with fail
      refine KQ.out.mono ?_
      rintro e u13c ⟨rfl, nd13, rfl⟩
      have HP13 := Aside0.mk (HP13b.out.drewN nd13)
      clear KQ HP13b
      generalize u13b.drewN nd13 = w13 at *
      obtain ⟨ad', hq, l0, l1⟩ := cell_at25 (Ru_C (HP13.out.fact (i := 3) rfl)).2.2 hjM
      cases hq
      rw [show M[j] = f j by rw [← HF.out, fL_get hjM]] at l1
      have hfr := HFR.out
      clear l0
      go_wp2_with (first | (refine wpList_load_row_g 30 (.tmp 9) rfl (ga) rfl rfl 30 _ (0, 0) _ (HP13.out.get (i := 2) rfl) Try.underlying30 rfl (HI _ _).out ?_))
      refine (cells_any f m _ H48.out).mono ?_
      rintro e u14 ⟨vc, rfl, hvc, hbc⟩
      obtain ⟨Qc, dc, hvq, hdc, hCc⟩ := Kd.R_reads hvc
      rw [listF_length] at hvq hdc hCc
      subst hvq
      have HP14a := Aside0.mk (HP13.out.call hbc)
      have HCc := Aside0.mk hCc
      have HDc := Aside0.mk hdc
      clear hvc hbc hCc hdc HP13 l1 hfr
      go_wp2_with fail
      refine (own_any Qc m dc _ _ HCc.out HDc.out (by have := H48.out; omega)).mono ?_
      rintro e u14b ⟨vo, rfl, hvo, hbo⟩
      obtain ⟨Qo, dq, hvq, hdo, hCo⟩ := Kd.R_reads hvo
      rw [List.length_map, listF_length] at hvq hdo hCo
      subst hvq
      have HP14b := Aside0.mk (HP14a.out.call hbo)
      have HCo := Aside0.mk hCo
      clear hvo hbo hCo hdo HCc HDc HP14a
      have hRy := Ru_C (HP14b.out.fact (i := 2) rfl)
      have KQ := Aside0.mk (same_any Qo Qx m m dq dx _ _ _ HCo.out hRy.2.2 (by have := H48.out; omega) (by have := H48.out; omega))
      rw [HE.out.2.2] at KQ
      clear HCo hRy
      go_wp2_with fail
      refine KQ.out.mono ?_
      rintro e u14c ⟨rfl, nd14, rfl⟩
      have HP14 := Aside0.mk (HP14b.out.drewN nd14)
      clear KQ HP14b
      generalize u14b.drewN nd14 = w14 at *
      go_wp2_with fail
      go_ret
      exact ⟨rfl, HP14.out.bel⟩
  · have KS := Aside0.mk (fun X : World => show_no f m i tm X hi)
    have KP := Aside0.mk (fun X : World => put_no f m i ⟨q0, q1⟩ X hi)
    have hbe := board_eql f f m m
    rw [sameB_refl] at hbe
    have hbg := board_guard
    have HBE := Aside0.mk (And.intro hbe hbg)
    clear hbe hbg
    have hii : i < 0 ∨ (0 ≤ i ∧ (m : Int) ≤ i) := by omega
    have HII := Aside0.mk hii
    clear hi hii
    have HZ := Aside0.mk (blk_new w3 (.cells (boardC (fun _ => z25) 0) 30))
    have HP4 := Aside0.mk ((HP3.out.alloc (.cells (boardC (fun _ => z25) 0) 30)).setRow (i := 0) rfl (boardC f m))
    clear HP3
    go_wp2_with (first | (refine wpList_store_row rfl 30 (.tmp 9) (.tmp 26) rfl (w3.heap.size) (boardC f m) rfl rfl 30 _ HZ.out (HI _ _).out (by rw [boardC_size, boardC_size]) (HO _ _).out ?_))
    clear HZ
    generalize (w3.alloc (.cells (boardC (fun _ => z25) 0) 30)).setRow w3.heap.size (boardC f m) = w4 at *
    generalize w3.heap.size = ga at *
    have HC4 := Aside0.mk (Ru_C (HP4.out.fact (i := 0) rfl)).2.2
    refine (own_any Q m d M _ HC4.out HMD.out (by have := H48.out; omega)).mono ?_
    rintro e w5 ⟨vx, rfl, hvx, hbx⟩
    obtain ⟨Qx, dx, hvq, hdx, hCx⟩ := Kd.R_reads hvx
    rw [List.length_map, HML.out] at hvq hdx hCx
    subst hvq
    have HP5 := Aside0.mk (HP4.out.row hbx hvx)
    have HDX := Aside0.mk hdx
    have q0' := blk_cell (HP5.out.get (i := 1) rfl) 0
    have q1' := blk_cell (HP5.out.get (i := 1) rfl) 1
    clear hvx hbx hdx hCx HP4 HC4
    go_wp2_with (first | (refine wpList_load_row_g 30 (.tmp 9) rfl (ga) rfl rfl 30 _ (0, 0) _ (HP5.out.get (i := 0) rfl) Try.underlying30 rfl (HI _ _).out ?_))
    refine (KP.out _).mono ?_
    rintro e w6 ⟨rfl, hb6⟩
    have HP6 := Aside0.mk (HP5.out.call hb6)
    clear hb6 HP5 KP q0' q1'
    have HZ := Aside0.mk (blk_new w6 (.cells (boardC (fun _ => z25) 0) 30))
    have HP7 := Aside0.mk ((HP6.out.alloc (.cells (boardC (fun _ => z25) 0) 30)).setRow (i := 0) rfl (boardC f m))
    clear HP6
    go_wp2_with (first | (refine wpList_store_row rfl 30 (.tmp 12) (.tmp 35) rfl (w6.heap.size) (boardC f m) rfl rfl 30 _ HZ.out (HI _ _).out (by rw [boardC_size, boardC_size]) (HO _ _).out ?_) | (refine wpList_load_row_g 30 (.tmp 9) rfl (ga) rfl rfl 30 _ (0, 0) _ (HP7.out.get (i := 1) rfl) Try.underlying30 rfl (HI _ _).out ?_))
    clear HZ
    generalize (w6.alloc (.cells (boardC (fun _ => z25) 0) 30)).setRow w6.heap.size (boardC f m) = w7 at *
    generalize w6.heap.size = gd at *
    refine (KS.out _).mono ?_
    rintro e w8 ⟨rfl, hb8⟩
    have HP8 := Aside0.mk (HP7.out.call hb8)
    clear hb8 HP7 KS
    obtain ⟨hbe, hbg⟩ := HBE.out
    rcases HII.out with hneg | ⟨hpos, hge⟩
    · have d1 : decide (i < 0) = true := decide_eq_true hneg
      have HZ := Aside0.mk (blk_new w8 (.cells (boardC (fun _ => z25) 0) 30))
      have HP9 := Aside0.mk ((HP8.out.alloc (.cells (boardC (fun _ => z25) 0) 30)).setRow (i := 0) rfl (boardC f m))
      clear HP8
      go_wp2_with (first | (refine wpList_store_row rfl 30 (.tmp 14) (.tmp 42) rfl (w8.heap.size) (boardC f m) rfl rfl 30 _ HZ.out (HI _ _).out (by rw [boardC_size, boardC_size]) (HO _ _).out ?_) | (refine wpList_load_row_g 30 (.tmp 12) rfl (gd) rfl rfl 30 _ (0, 0) _ (HP9.out.get (i := 1) rfl) Try.underlying30 rfl (HI _ _).out ?_) | (refine wpList_load_row_g 30 (.tmp 9) rfl (ga) rfl rfl 30 _ (0, 0) _ (HP9.out.get (i := 2) rfl) Try.underlying30 rfl (HI _ _).out ?_) | (refine wpList_load_row_g 30 (.tmp 14) rfl (w8.heap.size) rfl rfl 30 _ (0, 0) _ (HP9.out.get (i := 0) rfl) Try.underlying30 rfl (HI _ _).out ?_))
      clear HZ
      generalize (w8.alloc (.cells (boardC (fun _ => z25) 0) 30)).setRow w8.heap.size (boardC f m) = w9 at *
      generalize w8.heap.size = gs at *
      go_ret
      exact ⟨rfl, HP9.out.bel⟩
    · have d1 : decide (i < 0) = false := decide_eq_false (by omega)
      have d2 : decide ((m : Int) ≤ i) = true := decide_eq_true hge
      have hneg : ¬ i < 0 := by omega
      have HZ := Aside0.mk (blk_new w8 (.cells (boardC (fun _ => z25) 0) 30))
      have HP9 := Aside0.mk ((HP8.out.alloc (.cells (boardC (fun _ => z25) 0) 30)).setRow (i := 0) rfl (boardC f m))
      clear HP8
      go_wp2_with (first | (refine wpList_store_row rfl 30 (.tmp 14) (.tmp 42) rfl (w8.heap.size) (boardC f m) rfl rfl 30 _ HZ.out (HI _ _).out (by rw [boardC_size, boardC_size]) (HO _ _).out ?_) | (refine wpList_load_row_g 30 (.tmp 12) rfl (gd) rfl rfl 30 _ (0, 0) _ (HP9.out.get (i := 1) rfl) Try.underlying30 rfl (HI _ _).out ?_) | (refine wpList_load_row_g 30 (.tmp 9) rfl (ga) rfl rfl 30 _ (0, 0) _ (HP9.out.get (i := 2) rfl) Try.underlying30 rfl (HI _ _).out ?_) | (refine wpList_load_row_g 30 (.tmp 14) rfl (w8.heap.size) rfl rfl 30 _ (0, 0) _ (HP9.out.get (i := 0) rfl) Try.underlying30 rfl (HI _ _).out ?_))
      clear HZ
      generalize (w8.alloc (.cells (boardC (fun _ => z25) 0) 30)).setRow w8.heap.size (boardC f m) = w9 at *
      generalize w8.heap.size = gs at *
      go_ret
      exact ⟨rfl, HP9.out.bel⟩
end Go.Proofs.Ytkjjmmgngdpppaa
