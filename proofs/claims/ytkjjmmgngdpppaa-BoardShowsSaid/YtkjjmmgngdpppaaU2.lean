/- The walk of BoardShows. -/
import Derived.Test.YtkjjmmgngdpppaaUn
import Derived.Test.YtkjjmmgngdpppaaO
import Derived.Deep.RegionHeld3
namespace Go.Proofs.Ytkjjmmgngdpppaa
open Go.RowKit Go.Proofs.YtkjjmmgngdpppaaW.PrintWords Go.Proofs.YtkjjmmgngdpppaaW.PrintLast Go.Proofs.YtkjjmmgngdpppaaW.PrintMore
set_option linter.unusedVariables false
set_option linter.unusedSimpArgs false

theorem showF_self (f : Nat → S25) (j : Nat) (tm : Int) : showF f j tm j = ⟨(f j).f0, bits .or .u32 (f j).f1 tm⟩ := by unfold showF putF; rw [if_pos rfl]
theorem showF_other (f : Nat → S25) (j k : Nat) (tm : Int) (h : k ≠ j) : showF f j tm k = f k := by unfold showF putF; rw [if_neg h]
theorem showF_f0 (f : Nat → S25) (j k : Nat) (tm : Int) : (showF f j tm k).f0 = (f k).f0 := by
  by_cases h : k = j
  · subst h; rw [showF_self]
  · rw [showF_other _ _ _ _ h]
theorem showF_within (f : Nat → S25) (j k : Nat) (tm : Int) : withinB (f k).f1 (showF f j tm k).f1 = true := by
  by_cases h : k = j
  · subst h; rw [showF_self]; exact within_or_l _ _
  · rw [showF_other _ _ _ _ h]; exact within_refl _
theorem showF_again (f : Nat → S25) (j : Nat) (tm : Int) : showF (showF f j tm) j tm = showF f j tm := by
  funext k
  by_cases h : k = j
  · subst h; rw [showF_self, showF_self]; simp only; rw [or_again]
  · rw [showF_other _ _ _ _ h]
theorem shown_same (f : Nat → S25) (j m : Nat) (tm o : Int) (h : hasB tm o = false) : shownL (showF f j tm) m o = shownL f m o := by
  unfold shownL
  congr 1
  apply List.filter_congr
  intro k _
  by_cases e : k = j
  · subst e; rw [showF_self]; simp only; rw [hasB_or, h, Bool.or_false]
  · rw [showF_other _ _ _ _ e]
theorem shownL_get (f : Nat → S25) (m : Nat) (o : Int) (r : Nat) (h : r < (shownL f m o).length) : ∃ k : Nat, (shownL f m o)[r] = (k : Int) ∧ k < m := by
  have hm := List.getElem_mem h
  unfold shownL at hm
  obtain ⟨k, hk, e⟩ := List.mem_map.1 hm
  exact ⟨k, e.symm, List.mem_range.1 (List.mem_filter.1 hk).1⟩
set_option maxRecDepth 100000 in
set_option maxHeartbeats 8000000 in
theorem shows_walk (A : Option Addr) (n c : Nat) (L : List S25) (i tm o : Int) (w : World) (hr : k25.C w A n L) (hc : n ≤ c) (hw : ∀ x ∈ L, OkC x) (hI : I64 i) (hT : U32 tm) (hO : I64 o) :
    Calls Try.prog 4 #[.slice A n c, .int .i64 i, .int .u32 tm, .int .i64 o] w fun e w' => e = .returned (.bool true) ∧ Below w.heap.size w w' := by
  have HR := Aside0.mk hr
  have HCAP := Aside0.mk hc
  have hz := zero_board
  have HI := fun f m => Aside0.mk (board_info f m)
  have HO := fun f m => Aside0.mk (boardC_one f m)
  clear hr hc
  go_enter Try.func4, Try.ntmps4
  go_wp2_with fail
  refine (awake_any _).mono ?_
  rintro e w1 ⟨rfl, hb1⟩
  have HP1 := Aside0.mk ((Hp.start w).call hb1)
  have HR1 := Aside0.mk (Kd.C_below HR.out hb1)
  clear hb1 HR
  go_wp2_with fail
  refine (few_any _ _ _ L _ HR1.out HCAP.out).mono ?_
  rintro e w2 ⟨v2, rfl, hv2, hb2⟩
  have h48 : (L.take 48).length ≤ 48 := List.length_take_le _ _
  obtain ⟨M, hM⟩ : ∃ M, L.take 48 = M := ⟨_, rfl⟩
  rw [hM] at hv2 h48
  have HM := Aside0.mk hM
  obtain ⟨m, hm⟩ : ∃ m, M.length = m := ⟨_, rfl⟩
  obtain ⟨Q, d, hv, hd, hC⟩ := Kd.R_reads hv2
  rw [hm] at hv hd hC h48
  subst hv
  have HP2 := Aside0.mk (HP1.out.row hb2 hv2)
  have HC2 := Aside0.mk hC
  have HMD := Aside0.mk hd
  have HML := Aside0.mk hm
  have H48 := Aside0.mk h48
  clear hb2 hv2 hd hC hM hm HP1 HR1 HCAP
  go_wp2_with fail
  refine (new_any Q m d M _ HC2.out HMD.out H48.out).mono ?_
  rintro e w3 ⟨rfl, hb3⟩
  have HP3 := Aside0.mk (HP2.out.call hb3)
  generalize fL M = f
  clear hb3 HP2 HC2
  by_cases hi : 0 ≤ i ∧ i < m
  · obtain ⟨j, rfl⟩ : ∃ j : Nat, i = j := ⟨i.toNat, by omega⟩
    have hjm : j < m := by omega
    have KS : Aside0 (∀ X : World, Calls Try.prog 16 #[.agg (boardC f m), .int .i64 j, .int .u32 tm] X fun e w' => e = .returned (.tuple #[.agg (boardC (showF f j tm) m), .bool (!withinB tm (f j).f1), .int .i64 0]) ∧ Below X.heap.size X w') := ⟨fun X => show_any f m j tm X hjm H48.out⟩
    have KS2 : Aside0 (∀ X : World, Calls Try.prog 16 #[.agg (boardC (showF f j tm) m), .int .i64 j, .int .u32 tm] X fun e w' => e = .returned (.tuple #[.agg (boardC (showF f j tm) m), .bool false, .int .i64 0]) ∧ Below X.heap.size X w') := ⟨fun X => by
      have := show_any (showF f j tm) m j tm X hjm H48.out
      rw [showF_again, showF_self] at this
      simp only at this
      rw [within_or_r, Bool.not_true] at this
      exact this⟩
    generalize withinB tm (f j).f1 = fr at KS
    have HJ := Aside0.mk hjm
    clear hi hjm
    have HZ := Aside0.mk (blk_new w3 (.cells (boardC (fun _ => z25) 0) 30))
    have HP4 := Aside0.mk ((HP3.out.alloc (.cells (boardC (fun _ => z25) 0) 30)).setRow (i := 0) rfl (boardC f m))
    clear HP3
    go_wp2_with (first | (refine wpList_store_row rfl 30 (.tmp 9) (.tmp 32) rfl (w3.heap.size) (boardC f m) rfl rfl 30 _ HZ.out (HI _ _).out (by rw [boardC_size, boardC_size]) (HO _ _).out ?_) | (refine wpList_load_row rfl 30 (.tmp 9) rfl (w3.heap.size) rfl 30 _ (0, 0) _ (HP4.out.get (i := 0) rfl) Try.underlying30 rfl (HI _ _).out ?_))
    clear HZ
    generalize (w3.alloc (.cells (boardC (fun _ => z25) 0) 30)).setRow w3.heap.size (boardC f m) = w4 at *
    generalize w3.heap.size = ga at *
    refine (KS.out _).mono ?_
    rintro e w5 ⟨rfl, hb5⟩
    have HP5 := Aside0.mk (HP4.out.call hb5)
    clear hb5 HP4 KS
    have HZ := Aside0.mk (blk_new w5 (.cells (boardC (fun _ => z25) 0) 30))
    have HP6 := Aside0.mk ((HP5.out.alloc (.cells (boardC (fun _ => z25) 0) 30)).setRow (i := 0) rfl (boardC (showF f j tm) m))
    clear HP5
    go_wp2_with (first | (refine wpList_store_row rfl 30 (.tmp 11) (.tmp 39) rfl (w5.heap.size) (boardC (showF f j tm) m) rfl rfl 30 _ HZ.out (HI _ _).out (by rw [boardC_size, boardC_size]) (HO _ _).out ?_) | (refine wpList_load_row rfl 30 (.tmp 11) rfl (w5.heap.size) rfl 30 _ (0, 0) _ (HP6.out.get (i := 0) rfl) Try.underlying30 rfl (HI _ _).out ?_))
    clear HZ
    generalize (w5.alloc (.cells (boardC (fun _ => z25) 0) 30)).setRow w5.heap.size (boardC (showF f j tm) m) = w6 at *
    generalize w5.heap.size = gb at *
    refine (KS2.out _).mono ?_
    rintro e w7 ⟨rfl, hb7⟩
    have HP7 := Aside0.mk (HP6.out.call hb7)
    clear hb7 HP6 KS2
    have HZ := Aside0.mk (blk_new w7 (.cells (boardC (fun _ => z25) 0) 30))
    have HP8 := Aside0.mk ((HP7.out.alloc (.cells (boardC (fun _ => z25) 0) 30)).setRow (i := 0) rfl (boardC (showF f j tm) m))
    clear HP7
    go_wp2_with (first | (refine wpList_store_row rfl 30 (.tmp 14) (.tmp 52) rfl (w7.heap.size) (boardC (showF f j tm) m) rfl rfl 30 _ HZ.out (HI _ _).out (by rw [boardC_size, boardC_size]) (HO _ _).out ?_) | (refine wpList_load_row rfl 30 (.tmp 9) rfl (ga) rfl 30 _ (0, 0) _ (HP8.out.get (i := 2) rfl) Try.underlying30 rfl (HI _ _).out ?_))
    clear HZ
    generalize (w7.alloc (.cells (boardC (fun _ => z25) 0) 30)).setRow w7.heap.size (boardC (showF f j tm) m) = w8 at *
    generalize w7.heap.size = gc at *
    refine (shown_any f m o _ H48.out).mono ?_
    rintro e w9 ⟨v9, rfl, hv9, hb9⟩
    have hlS := shownL_get f m o
    obtain ⟨S, hS⟩ : ∃ S, shownL f m o = S := ⟨_, rfl⟩
    rw [hS] at hv9 hlS
    obtain ⟨s, hs⟩ : ∃ s, S.length = s := ⟨_, rfl⟩
    obtain ⟨Q2, d2, hvq, hd2, hC9⟩ := Kd.R_reads hv9
    rw [hs] at hvq hd2 hC9
    subst hvq
    have HP9 : Aside0 (Hp w.heap.size w w9 [(gc, .cells (boardC (showF f j tm) m) 30 (0, 0)), (gb, .cells (boardC (showF f j tm) m) 30 (0, 0)), (ga, .cells (boardC f m) 30 (0, 0))] [fun X => (Kd.int .i64).R 3 X w.heap.size (fun _ => True) (.slice Q2 s d2) S]) := ⟨(HP8.out.row hb9 hv9).drop (fun φ h => by rw [List.mem_singleton.1 h]; exact List.mem_cons_self)⟩
    have HS := Aside0.mk (And.intro hs hlS)
    have hs63 : s ≤ 1000000 := by have := shownL_len f m o; rw [hS, hs] at this; have := H48.out; omega
    clear hb9 hv9 hC9 hlS hS hs hd2 HP8 HML HM
    go_wp2_with fail
    go_loopw [59] (fun v59 wr => ∃ r : Nat, r ≤ s ∧ v59 = .int .i64 r ∧ Aside0 (Hp w.heap.size w wr [(gc, .cells (boardC (showF f j tm) m) 30 (0, 0)), (gb, .cells (boardC (showF f j tm) m) 30 (0, 0)), (ga, .cells (boardC f m) 30 (0, 0))] [fun X => (Kd.int .i64).R 3 X w.heap.size (fun _ => True) (.slice Q2 s d2) S])) (fun v59 _ => s - (intOf v59).toNat)
    case atStart => exact ⟨0, by omega, rfl, HP9⟩
    case round =>
      clear HP9
      obtain ⟨r, hr, rfl, H⟩ := hrel
      by_cases hlt : r < s
      · have d1 : decide (r < s) = true := decide_eq_true hlt
        obtain ⟨k, hk, hkm⟩ := HS.out.2 r (by rw [HS.out.1]; exact hlt)
        obtain ⟨ad, hq, hcell⟩ := int_at (Ru_C (H.out.fact (i := 0) rfl)).2.2 r (by rw [HS.out.1]; exact hlt)
        rw [hk] at hcell
        subst hq
        have KA : Aside0 (∀ X : World, Calls Try.prog 13 #[.agg (boardC f m), .int .i64 k] X fun e w' => e = .returned (.tuple #[.agg #[.int .i32 (f k).f0, .int .u32 (f k).f1], .bool true]) ∧ Below X.heap.size X w') := ⟨fun X => at_any f m k X hkm H48.out⟩
        have KB : Aside0 (∀ X : World, Calls Try.prog 13 #[.agg (boardC (showF f j tm) m), .int .i64 k] X fun e w' => e = .returned (.tuple #[.agg #[.int .i32 (f k).f0, .int .u32 (showF f j tm k).f1], .bool true]) ∧ Below X.heap.size X w') := ⟨fun X => by have := at_any (showF f j tm) m k X hkm H48.out; rw [showF_f0] at this; exact this⟩
        have KW : Aside0 (∀ X : World, Calls Try.prog 18 #[.int .u32 (f k).f1, .int .u32 (showF f j tm k).f1] X fun e w' => e = .returned (.bool true) ∧ Drawn0 X w') := ⟨fun X => by have := within_any (f k).f1 (showF f j tm k).f1 X; rw [showF_within] at this; exact this⟩
        clear hk hkm
        generalize (f k).f0 = x0 at *
        generalize (f k).f1 = x1 at *
        generalize (showF f j tm k).f1 = y1 at *
        go_wp2_with (first | (refine wpList_load_row rfl 30 (.tmp 9) rfl (ga) rfl 30 _ (0, 0) _ (H.out.get (i := 2) rfl) Try.underlying30 rfl (HI _ _).out ?_))
        refine (KA.out _).mono ?_
        rintro e z1 ⟨rfl, hz1⟩
        have G1 := Aside0.mk ((H.out.call hz1).alloc (.cells #[.int .i32 x0, .int .u32 x1] 25))
        clear hz1 KA hcell
        go_wp2_with (first | (refine wpList_load_row rfl 30 (.tmp 11) rfl (gb) rfl 30 _ (0, 0) _ (G1.out.get (i := 2) rfl) Try.underlying30 rfl (HI _ _).out ?_))
        refine (KB.out _).mono ?_
        rintro e z2 ⟨rfl, hz2⟩
        have G2 := Aside0.mk ((G1.out.call hz2).alloc (.cells #[.int .i32 x0, .int .u32 y1] 25))
        have a0 := blk_cell (G2.out.get (i := 1) rfl) 0
        have a1 := blk_cell (G2.out.get (i := 1) rfl) 1
        have b0 := blk_cell (G2.out.get (i := 0) rfl) 0
        have b1 := blk_cell (G2.out.get (i := 0) rfl) 1
        have hne : (x0 != x0) = false := by simp
        clear hz2 KB G1
        go_wp2_with fail
        refine (KW.out _).mono ?_
        rintro e z3 ⟨rfl, nd, rfl⟩
        have G3 := Aside0.mk (G2.out.rest.rest.drewN nd)
        clear G2 KW a0 a1 b0 b1 hne
        go_wp2_with fail
        go_roundw
        case rel => exact ⟨r + 1, by omega, by go_num, G3⟩
        case measure => simp [intOf]; omega
      · obtain rfl : r = s := by omega
        have d1 : decide (r < r) = false := decide_eq_false (by omega)
        have KB : Aside0 (∀ X : World, Calls Try.prog 13 #[.agg (boardC (showF f j tm) m), .int .i64 j] X fun e w' => e = .returned (.tuple #[.agg #[.int .i32 (f j).f0, .int .u32 (bits .or .u32 (f j).f1 tm)], .bool true]) ∧ Below X.heap.size X w') := ⟨fun X => by have := at_any (showF f j tm) m j X HJ.out H48.out; rw [showF_self] at this; exact this⟩
        have KW : Aside0 (∀ X : World, Calls Try.prog 18 #[.int .u32 tm, .int .u32 (bits .or .u32 (f j).f1 tm)] X fun e w' => e = .returned (.bool true) ∧ Drawn0 X w') := ⟨fun X => by have := within_any tm (bits .or .u32 (f j).f1 tm) X; rw [within_or_r] at this; exact this⟩
        have KH : Aside0 (∀ X : World, Calls Try.prog 19 #[.int .u32 tm, .int .i64 o] X fun e w' => e = .returned (.bool (hasB tm o)) ∧ Drawn0 X w') := ⟨fun X => has_any tm o X⟩
        have KE := Aside0.mk (shown_same f j m tm o)
        generalize (f j).f0 = x0 at *
        generalize bits .or .u32 (f j).f1 tm = x1 at *
        clear hr hlt
        go_wp2_with (first | (refine wpList_load_row rfl 30 (.tmp 11) rfl (gb) rfl 30 _ (0, 0) _ (H.out.get (i := 1) rfl) Try.underlying30 rfl (HI _ _).out ?_))
        refine (KB.out _).mono ?_
        rintro e z1 ⟨rfl, hz1⟩
        have G1 := Aside0.mk ((H.out.call hz1).alloc (.cells #[.int .i32 x0, .int .u32 x1] 25))
        clear hz1 KB
        go_wp2_with fail
        generalize z1.alloc (.cells #[.int .i32 x0, .int .u32 x1] 25) = V at *
        generalize z1.heap.size = gx at *
        cases hh : hasB tm o with
        | true =>
          refine region_grown (W := V)
            [fun (w : World) (v : Value) => v = .agg (boardC (showF f j tm) m),
   fun (w : World) (v : Value) => v = .agg (boardC (showF f j tm) m),
   fun (w : World) (v : Value) => v = .bool true,
   fun (w : World) (v : Value) => v = .bool true,
   fun (w : World) (v : Value) => v = .bool false,
   fun (w : World) (v : Value) => v = .bool true,
   fun (w : World) (v : Value) => v = .bool true,
   fun (w : World) (v : Value) => v = .bool true,
   fun (w : World) (v : Value) => v = .int .u32 tm,
   fun (w : World) (v : Value) => v = .pointer (some ⟨gx, 1, none⟩),
   fun (w : World) (v : Value) => v = .int .u32 x1,
   fun (w : World) (v : Value) => v = .bool true,
   fun (w : World) (v : Value) => v = .bool true,
   fun (w : World) (v : Value) => v = .bool true,
   fun (w : World) (v : Value) => v = .int .u32 tm,
   fun (w : World) (v : Value) => v = .int .i64 o,
   fun (w : World) (v : Value) => v = .bool true,
   fun (w : World) (v : Value) => v = .bool true,
   fun (w : World) (v : Value) => v = undef,
   fun (w : World) (v : Value) => v = undef,
   fun (w : World) (v : Value) => v = undef,
   fun (w : World) (v : Value) => v = undef,
   fun (w : World) (v : Value) => v = undef,
   fun (w : World) (v : Value) => v = undef,
   fun (w : World) (v : Value) => v = undef,
   fun (w : World) (v : Value) => v = undef,
   fun (w : World) (v : Value) => v = undef,
   fun (w : World) (v : Value) => v = .bool true,
   fun (w : World) (v : Value) => v = .bool true,
   fun (w : World) (v : Value) => v = .bool true]
            (fun j => if j = 3 then some true else if j = 7 then some true else if j = 13 then some true else if j = 17 then some true else none)
            [(0, some 95), (1, some 96), (2, some 97), (3, some 98), (4, some 99), (5, some 100), (6, some 101), (7, some 102), (8, some 103), (9, some 104), (10, some 105), (11, some 106), (12, some 107), (13, some 108), (14, some 109), (15, some 110), (16, some 111), (17, some 112), (18, some 113), (19, some 114), (20, some 115), (21, some 116), (22, some 117), (23, some 118), (24, some 119), (25, some 120), (26, some 121), (27, some 122), (28, some 123), (29, some 8)]
            [3, 7, 13, 17]
            (by kernel_rfl) (by kernel_rfl) (by kernel_rfl) (by kernel_rfl) ?r18_1g ?r18_1s ⟨?r18_1o0, ?r18_1o1, ?r18_1o2, ?r18_1o3, ?r18_1o4, ?r18_1o5, ?r18_1o6, ?r18_1o7, ?r18_1o8, ?r18_1o9, ?r18_1o10, ?r18_1o11, ?r18_1o12, ?r18_1o13, ?r18_1o14, ?r18_1o15, ?r18_1o16, ?r18_1o17, ?r18_1o18, ?r18_1o19, ?r18_1o20, ?r18_1o21, ?r18_1o22, ?r18_1o23, ?r18_1o24, ?r18_1o25, ?r18_1o26, ?r18_1o27, ?r18_1o28, ?r18_1o29, trivial⟩ ?r18_1e
          case r18_1g =>
            intro j hj w v hv
            simp only [List.mem_cons, List.not_mem_nil, or_false] at hj
            rcases hj with rfl | rfl | rfl | rfl
            · have hv' : v = .bool true := hv; rw [hv']; rfl
            · have hv' : v = .bool true := hv; rw [hv']; rfl
            · have hv' : v = .bool true := hv; rw [hv']; rfl
            · have hv' : v = .bool true := hv; rw [hv']; rfl
          case r18_1s =>
            refine ⟨(fun w w' v hb h => h), (fun w w' v hb h => h), (fun w w' v hb h => h), (fun w w' v hb h => h), (fun w w' v hb h => h), (fun w w' v hb h => h), (fun w w' v hb h => h), (fun w w' v hb h => h), (fun w w' v hb h => h), (fun w w' v hb h => h), (fun w w' v hb h => h), (fun w w' v hb h => h), (fun w w' v hb h => h), (fun w w' v hb h => h), (fun w w' v hb h => h), (fun w w' v hb h => h), (fun w w' v hb h => h), (fun w w' v hb h => h), (fun w w' v hb h => h), (fun w w' v hb h => h), (fun w w' v hb h => h), (fun w w' v hb h => h), (fun w w' v hb h => h), (fun w w' v hb h => h), (fun w w' v hb h => h), (fun w w' v hb h => h), (fun w w' v hb h => h), (fun w w' v hb h => h), (fun w w' v hb h => h), (fun w w' v hb h => h), trivial⟩
          case r18_1o0 =>
            intro vs w hb hV
            rw [if_pos (by kernel_rfl)]
            generalize hρ : rho _ _ _ vs = ρ
            have e14 : ρ (.tmp 14) = .pointer (some ⟨gc, 0, none⟩) := by rw [← hρ]; kernel_rfl
            clear hρ hV
            exact runs_load 30 (.tmp 14) rfl gc e14 30 (boardC (showF f j tm) m) (0, 0) _ (((hb.block gc (blk_lt (G1.out.get (i := 1) rfl))).trans (G1.out.get (i := 1) rfl))) Try.underlying30 rfl (HI _ _).out ⟨Below.refl _ _, rfl⟩
          case r18_1o1 =>
            intro vs w hb hV
            rw [if_pos (by kernel_rfl)]
            generalize hρ : rho _ _ _ vs = ρ
            have e11 : ρ (.tmp 11) = .pointer (some ⟨gb, 0, none⟩) := by rw [← hρ]; kernel_rfl
            clear hρ hV
            exact runs_load 30 (.tmp 11) rfl gb e11 30 (boardC (showF f j tm) m) (0, 0) _ (((hb.block gb (blk_lt (G1.out.get (i := 2) rfl))).trans (G1.out.get (i := 2) rfl))) Try.underlying30 rfl (HI _ _).out ⟨Below.refl _ _, rfl⟩
          case r18_1o2 =>
            intro vs w hb hV
            rw [if_pos (by kernel_rfl)]
            generalize hρ : rho _ _ _ vs = ρ
            have d95 : (vs 0) = .agg (boardC (showF f j tm) m) := hV 0 (by kernel_rfl)
            have e95 : ρ (.tmp 95) = vs 0 := by rw [← hρ]; kernel_rfl
            rw [d95] at e95; clear d95
            have d96 : (vs 1) = .agg (boardC (showF f j tm) m) := hV 1 (by kernel_rfl)
            have e96 : ρ (.tmp 96) = vs 1 := by rw [← hρ]; kernel_rfl
            rw [d96] at e96; clear d96
            clear hρ hV
            have hbe := board_eql (showF f j tm) (showF f j tm) m m
            rw [sameB_refl] at hbe
            have hbg := board_guard
            refine runs_val (v := .bool true) (w' := w) ?_ ⟨Below.refl _ _, rfl⟩
            go_simp
          case r18_1o3 =>
            intro vs w hb hV
            rw [if_pos (by kernel_rfl)]
            generalize hρ : rho _ _ _ vs = ρ
            have d97 : (vs 2) = .bool true := hV 2 (by kernel_rfl)
            have e97 : ρ (.tmp 97) = vs 2 := by rw [← hρ]; kernel_rfl
            clear hρ hV
            refine runs_val (v := vs 2) (w' := w) ?_ ⟨Below.refl _ _, d97⟩
            go_simp
          case r18_1o4 =>
            intro vs w hb hV
            rw [if_pos (by kernel_rfl)]
            generalize hρ : rho _ _ _ vs = ρ
            have e15 : ρ (.tmp 15) = .bool false := by rw [← hρ]; kernel_rfl
            clear hρ hV
            refine runs_val (v := .bool false) (w' := w) ?_ ⟨Below.refl _ _, rfl⟩
            go_simp <;> (first | exact IntWalk.u64_in _ (by omega) | exact IntWalk.u32_in _ (by omega) | exact IntWalk.u16_in _ (by omega) | exact IntWalk.u8_in _ (by omega) | exact IntWalk.i64_in _ (by omega) | skip)
          case r18_1o5 =>
            intro vs w hb hV
            rw [if_pos (by kernel_rfl)]
            generalize hρ : rho _ _ _ vs = ρ
            have d99 : (vs 4) = .bool false := hV 4 (by kernel_rfl)
            have e99 : ρ (.tmp 99) = vs 4 := by rw [← hρ]; kernel_rfl
            rw [d99] at e99; clear d99
            clear hρ hV
            refine runs_val (v := .bool true) (w' := w) ?_ ⟨Below.refl _ _, rfl⟩
            go_simp <;> (first | exact IntWalk.u64_in _ (by omega) | exact IntWalk.u32_in _ (by omega) | exact IntWalk.u16_in _ (by omega) | exact IntWalk.u8_in _ (by omega) | exact IntWalk.i64_in _ (by omega) | skip)
          case r18_1o6 =>
            intro vs w hb hV
            rw [if_pos (by kernel_rfl)]
            generalize hρ : rho _ _ _ vs = ρ
            have d98 : (vs 3) = .bool true := hV 3 (by kernel_rfl)
            have e98 : ρ (.tmp 98) = vs 3 := by rw [← hρ]; kernel_rfl
            rw [d98] at e98; clear d98
            have d100 : (vs 5) = .bool true := hV 5 (by kernel_rfl)
            have e100 : ρ (.tmp 100) = vs 5 := by rw [← hρ]; kernel_rfl
            rw [d100] at e100; clear d100
            have econ : ∀ v : Value, ρ (.const v) = v := fun v => by rw [← hρ]; rfl
            clear hρ hV
            refine runs_val (v := .bool true) (w' := w) ?_ ⟨Below.refl _ _, rfl⟩
            go_simp <;> (first | exact IntWalk.u64_in _ (by omega) | exact IntWalk.u32_in _ (by omega) | exact IntWalk.u16_in _ (by omega) | exact IntWalk.u8_in _ (by omega) | exact IntWalk.i64_in _ (by omega) | skip)
          case r18_1o7 =>
            intro vs w hb hV
            rw [if_pos (by kernel_rfl)]
            generalize hρ : rho _ _ _ vs = ρ
            have d101 : (vs 6) = .bool true := hV 6 (by kernel_rfl)
            have e101 : ρ (.tmp 101) = vs 6 := by rw [← hρ]; kernel_rfl
            clear hρ hV
            refine runs_val (v := vs 6) (w' := w) ?_ ⟨Below.refl _ _, d101⟩
            go_simp
          case r18_1o8 =>
            intro vs w hb hV
            rw [if_pos (by kernel_rfl)]
            generalize hρ : rho _ _ _ vs = ρ
            have e2 : ρ (.tmp 2) = .int .u32 tm := by rw [← hρ]; kernel_rfl
            clear hρ hV
            refine runs_val (v := .int .u32 tm) (w' := w) ?_ ⟨Below.refl _ _, rfl⟩
            go_simp <;> (first | exact IntWalk.u64_in _ (by omega) | exact IntWalk.u32_in _ (by omega) | exact IntWalk.u16_in _ (by omega) | exact IntWalk.u8_in _ (by omega) | exact IntWalk.i64_in _ (by omega) | skip)
          case r18_1o9 =>
            intro vs w hb hV
            rw [if_pos (by kernel_rfl)]
            generalize hρ : rho _ _ _ vs = ρ
            have e23 : ρ (.tmp 23) = .pointer (some ⟨gx, 0, none⟩) := by rw [← hρ]; kernel_rfl
            clear hρ hV
            refine runs_val (v := .pointer (some ⟨gx, 1, none⟩)) (w' := w) ?_ ⟨Below.refl _ _, rfl⟩
            go_simp <;> (first | exact IntWalk.u64_in _ (by omega) | exact IntWalk.u32_in _ (by omega) | exact IntWalk.u16_in _ (by omega) | exact IntWalk.u8_in _ (by omega) | exact IntWalk.i64_in _ (by omega) | skip)
          case r18_1o10 =>
            intro vs w hb hV
            rw [if_pos (by kernel_rfl)]
            generalize hρ : rho _ _ _ vs = ρ
            have d104 : (vs 9) = .pointer (some ⟨gx, 1, none⟩) := hV 9 (by kernel_rfl)
            have e104 : ρ (.tmp 104) = vs 9 := by rw [← hρ]; kernel_rfl
            rw [d104] at e104; clear d104
            clear hρ hV
            have c1 : w.cell? ⟨gx, 1, none⟩ = some (.int .u32 x1) := pw_cell_below hb (blk_cell (G1.out.get (i := 0) rfl) 1)
            refine runs_val (v := .int .u32 x1) (w' := w) ?_ ⟨Below.refl _ _, rfl⟩
            go_simp
          case r18_1o11 =>
            intro vs w hb hV
            rw [if_pos (by kernel_rfl)]
            generalize hρ : rho _ _ _ vs = ρ
            have d103 : (vs 8) = .int .u32 tm := hV 8 (by kernel_rfl)
            have e103 : ρ (.tmp 103) = vs 8 := by rw [← hρ]; kernel_rfl
            rw [d103] at e103; clear d103
            have d105 : (vs 10) = .int .u32 x1 := hV 10 (by kernel_rfl)
            have e105 : ρ (.tmp 105) = vs 10 := by rw [← hρ]; kernel_rfl
            rw [d105] at e105; clear d105
            have ef18 : ρ (.func 18) = .func (.func 18) #[] #[] := by rw [← hρ]; rfl
            clear hρ hV
            refine runs_call (f := 18) (args := #[.int .u32 tm, .int .u32 x1]) (w' := w) ?_ ?_
            · go_simp
            · refine (KW.out _).mono ?_
              rintro e w5 ⟨rfl, hd5⟩
              exact ⟨_, rfl, hd5.below, rfl⟩
          case r18_1o12 =>
            intro vs w hb hV
            rw [if_pos (by kernel_rfl)]
            generalize hρ : rho _ _ _ vs = ρ
            have d102 : (vs 7) = .bool true := hV 7 (by kernel_rfl)
            have e102 : ρ (.tmp 102) = vs 7 := by rw [← hρ]; kernel_rfl
            rw [d102] at e102; clear d102
            have d106 : (vs 11) = .bool true := hV 11 (by kernel_rfl)
            have e106 : ρ (.tmp 106) = vs 11 := by rw [← hρ]; kernel_rfl
            rw [d106] at e106; clear d106
            have econ : ∀ v : Value, ρ (.const v) = v := fun v => by rw [← hρ]; rfl
            clear hρ hV
            refine runs_val (v := .bool true) (w' := w) ?_ ⟨Below.refl _ _, rfl⟩
            go_simp <;> (first | exact IntWalk.u64_in _ (by omega) | exact IntWalk.u32_in _ (by omega) | exact IntWalk.u16_in _ (by omega) | exact IntWalk.u8_in _ (by omega) | exact IntWalk.i64_in _ (by omega) | skip)
          case r18_1o13 =>
            intro vs w hb hV
            rw [if_pos (by kernel_rfl)]
            generalize hρ : rho _ _ _ vs = ρ
            have d107 : (vs 12) = .bool true := hV 12 (by kernel_rfl)
            have e107 : ρ (.tmp 107) = vs 12 := by rw [← hρ]; kernel_rfl
            clear hρ hV
            refine runs_val (v := vs 12) (w' := w) ?_ ⟨Below.refl _ _, d107⟩
            go_simp
          case r18_1o14 =>
            intro vs w hb hV
            rw [if_pos (by kernel_rfl)]
            generalize hρ : rho _ _ _ vs = ρ
            have e2 : ρ (.tmp 2) = .int .u32 tm := by rw [← hρ]; kernel_rfl
            clear hρ hV
            refine runs_val (v := .int .u32 tm) (w' := w) ?_ ⟨Below.refl _ _, rfl⟩
            go_simp <;> (first | exact IntWalk.u64_in _ (by omega) | exact IntWalk.u32_in _ (by omega) | exact IntWalk.u16_in _ (by omega) | exact IntWalk.u8_in _ (by omega) | exact IntWalk.i64_in _ (by omega) | skip)
          case r18_1o15 =>
            intro vs w hb hV
            rw [if_pos (by kernel_rfl)]
            generalize hρ : rho _ _ _ vs = ρ
            have e3 : ρ (.tmp 3) = .int .i64 o := by rw [← hρ]; kernel_rfl
            clear hρ hV
            refine runs_val (v := .int .i64 o) (w' := w) ?_ ⟨Below.refl _ _, rfl⟩
            go_simp <;> (first | exact IntWalk.u64_in _ (by omega) | exact IntWalk.u32_in _ (by omega) | exact IntWalk.u16_in _ (by omega) | exact IntWalk.u8_in _ (by omega) | exact IntWalk.i64_in _ (by omega) | skip)
          case r18_1o16 =>
            intro vs w hb hV
            rw [if_pos (by kernel_rfl)]
            generalize hρ : rho _ _ _ vs = ρ
            have d109 : (vs 14) = .int .u32 tm := hV 14 (by kernel_rfl)
            have e109 : ρ (.tmp 109) = vs 14 := by rw [← hρ]; kernel_rfl
            rw [d109] at e109; clear d109
            have d110 : (vs 15) = .int .i64 o := hV 15 (by kernel_rfl)
            have e110 : ρ (.tmp 110) = vs 15 := by rw [← hρ]; kernel_rfl
            rw [d110] at e110; clear d110
            have ef19 : ρ (.func 19) = .func (.func 19) #[] #[] := by rw [← hρ]; rfl
            clear hρ hV
            refine runs_call (f := 19) (args := #[.int .u32 tm, .int .i64 o]) (w' := w) ?_ ?_
            · go_simp
            · have KH2 := KH.out w
              rw [hh] at KH2
              refine KH2.mono ?_
              rintro e w5 ⟨rfl, hd5⟩
              exact ⟨_, rfl, hd5.below, rfl⟩
          case r18_1o17 =>
            intro vs w hb hV
            rw [if_pos (by kernel_rfl)]
            generalize hρ : rho _ _ _ vs = ρ
            have d111 : (vs 16) = .bool true := hV 16 (by kernel_rfl)
            have e111 : ρ (.tmp 111) = vs 16 := by rw [← hρ]; kernel_rfl
            clear hρ hV
            refine runs_val (v := vs 16) (w' := w) ?_ ⟨Below.refl _ _, d111⟩
            go_simp
          case r18_1o18 =>
            intro vs w hb hV
            (rw [if_neg (by decide)]) <;> exact rfl
          case r18_1o19 =>
            intro vs w hb hV
            (rw [if_neg (by decide)]) <;> exact rfl
          case r18_1o20 =>
            intro vs w hb hV
            (rw [if_neg (by decide)]) <;> exact rfl
          case r18_1o21 =>
            intro vs w hb hV
            (rw [if_neg (by decide)]) <;> exact rfl
          case r18_1o22 =>
            intro vs w hb hV
            (rw [if_neg (by decide)]) <;> exact rfl
          case r18_1o23 =>
            intro vs w hb hV
            (rw [if_neg (by decide)]) <;> exact rfl
          case r18_1o24 =>
            intro vs w hb hV
            (rw [if_neg (by decide)]) <;> exact rfl
          case r18_1o25 =>
            intro vs w hb hV
            (rw [if_neg (by decide)]) <;> exact rfl
          case r18_1o26 =>
            intro vs w hb hV
            (rw [if_neg (by decide)]) <;> exact rfl
          case r18_1o27 =>
            intro vs w hb hV
            rw [if_pos (by kernel_rfl)]
            generalize hρ : rho _ _ _ vs = ρ
            have d112 : (vs 17) = .bool true := hV 17 (by kernel_rfl)
            have e112 : ρ (.tmp 112) = vs 17 := by rw [← hρ]; kernel_rfl
            rw [d112] at e112; clear d112
            have d121 : (vs 26) = undef := hV 26 (by kernel_rfl)
            have e121 : ρ (.tmp 121) = vs 26 := by rw [← hρ]; kernel_rfl
            rw [d121] at e121; clear d121
            have econ : ∀ v : Value, ρ (.const v) = v := fun v => by rw [← hρ]; rfl
            clear hρ hV
            refine runs_val (v := .bool true) (w' := w) ?_ ⟨Below.refl _ _, rfl⟩
            go_simp <;> (first | exact IntWalk.u64_in _ (by omega) | exact IntWalk.u32_in _ (by omega) | exact IntWalk.u16_in _ (by omega) | exact IntWalk.u8_in _ (by omega) | exact IntWalk.i64_in _ (by omega) | skip)
          case r18_1o28 =>
            intro vs w hb hV
            rw [if_pos (by kernel_rfl)]
            generalize hρ : rho _ _ _ vs = ρ
            have d108 : (vs 13) = .bool true := hV 13 (by kernel_rfl)
            have e108 : ρ (.tmp 108) = vs 13 := by rw [← hρ]; kernel_rfl
            rw [d108] at e108; clear d108
            have d122 : (vs 27) = .bool true := hV 27 (by kernel_rfl)
            have e122 : ρ (.tmp 122) = vs 27 := by rw [← hρ]; kernel_rfl
            rw [d122] at e122; clear d122
            have econ : ∀ v : Value, ρ (.const v) = v := fun v => by rw [← hρ]; rfl
            clear hρ hV
            refine runs_val (v := .bool true) (w' := w) ?_ ⟨Below.refl _ _, rfl⟩
            go_simp <;> (first | exact IntWalk.u64_in _ (by omega) | exact IntWalk.u32_in _ (by omega) | exact IntWalk.u16_in _ (by omega) | exact IntWalk.u8_in _ (by omega) | exact IntWalk.i64_in _ (by omega) | skip)
          case r18_1o29 =>
            intro vs w hb hV
            rw [if_pos (by kernel_rfl)]
            generalize hρ : rho _ _ _ vs = ρ
            have d123 : (vs 28) = .bool true := hV 28 (by kernel_rfl)
            have e123 : ρ (.tmp 123) = vs 28 := by rw [← hρ]; kernel_rfl
            clear hρ hV
            refine runs_val (v := vs 28) (w' := w) ?_ ⟨Below.refl _ _, d123⟩
            go_simp
          case r18_1e =>
            intro vs V2 hb2 hV
            have d95 : (vs 0) = .agg (boardC (showF f j tm) m) := hV 0 (Nat.le_of_ble_eq_true rfl)
            have d96 : (vs 1) = .agg (boardC (showF f j tm) m) := hV 1 (Nat.le_of_ble_eq_true rfl)
            have d97 : (vs 2) = .bool true := hV 2 (Nat.le_of_ble_eq_true rfl)
            have d98 : (vs 3) = .bool true := hV 3 (Nat.le_of_ble_eq_true rfl)
            have d99 : (vs 4) = .bool false := hV 4 (Nat.le_of_ble_eq_true rfl)
            have d100 : (vs 5) = .bool true := hV 5 (Nat.le_of_ble_eq_true rfl)
            have d101 : (vs 6) = .bool true := hV 6 (Nat.le_of_ble_eq_true rfl)
            have d102 : (vs 7) = .bool true := hV 7 (Nat.le_of_ble_eq_true rfl)
            have d103 : (vs 8) = .int .u32 tm := hV 8 (Nat.le_of_ble_eq_true rfl)
            have d104 : (vs 9) = .pointer (some ⟨gx, 1, none⟩) := hV 9 (Nat.le_of_ble_eq_true rfl)
            have d105 : (vs 10) = .int .u32 x1 := hV 10 (Nat.le_of_ble_eq_true rfl)
            have d106 : (vs 11) = .bool true := hV 11 (Nat.le_of_ble_eq_true rfl)
            have d107 : (vs 12) = .bool true := hV 12 (Nat.le_of_ble_eq_true rfl)
            have d108 : (vs 13) = .bool true := hV 13 (Nat.le_of_ble_eq_true rfl)
            have d109 : (vs 14) = .int .u32 tm := hV 14 (Nat.le_of_ble_eq_true rfl)
            have d110 : (vs 15) = .int .i64 o := hV 15 (Nat.le_of_ble_eq_true rfl)
            have d111 : (vs 16) = .bool true := hV 16 (Nat.le_of_ble_eq_true rfl)
            have d112 : (vs 17) = .bool true := hV 17 (Nat.le_of_ble_eq_true rfl)
            have d113 : (vs 18) = undef := hV 18 (Nat.le_of_ble_eq_true rfl)
            have d114 : (vs 19) = undef := hV 19 (Nat.le_of_ble_eq_true rfl)
            have d115 : (vs 20) = undef := hV 20 (Nat.le_of_ble_eq_true rfl)
            have d116 : (vs 21) = undef := hV 21 (Nat.le_of_ble_eq_true rfl)
            have d117 : (vs 22) = undef := hV 22 (Nat.le_of_ble_eq_true rfl)
            have d118 : (vs 23) = undef := hV 23 (Nat.le_of_ble_eq_true rfl)
            have d119 : (vs 24) = undef := hV 24 (Nat.le_of_ble_eq_true rfl)
            have d120 : (vs 25) = undef := hV 25 (Nat.le_of_ble_eq_true rfl)
            have d121 : (vs 26) = undef := hV 26 (Nat.le_of_ble_eq_true rfl)
            have d122 : (vs 27) = .bool true := hV 27 (Nat.le_of_ble_eq_true rfl)
            have d123 : (vs 28) = .bool true := hV 28 (Nat.le_of_ble_eq_true rfl)
            have d8 : (vs 29) = .bool true := hV 29 (Nat.le_of_ble_eq_true rfl)
            clear hV
            simp only [putAll]
            rw [d95, d96, d97, d98, d99, d100, d101, d102, d103, d104, d105, d106, d107, d108, d109, d110, d111, d112, d113, d114, d115, d116, d117, d118, d119, d120, d121, d122, d123, d8]
            clear d95 d96 d97 d98 d99 d100 d101 d102 d103 d104 d105 d106 d107 d108 d109 d110 d111 d112 d113 d114 d115 d116 d117 d118 d119 d120 d121 d122 d123 d8
            clear vs
            simp only [Act.put, List.setIfInBounds_toArray, List.set_cons_zero, List.set_cons_succ]
            have G2 := Aside0.mk (G1.out.call hb2)
            clear hb2
            go_wp2_with fail
            go_ret
            exact ⟨rfl, G2.out.bel⟩
        | false =>
          refine region_grown (W := V)
            [fun (w : World) (v : Value) => v = .agg (boardC (showF f j tm) m),
   fun (w : World) (v : Value) => v = .agg (boardC (showF f j tm) m),
   fun (w : World) (v : Value) => v = .bool true,
   fun (w : World) (v : Value) => v = .bool true,
   fun (w : World) (v : Value) => v = .bool false,
   fun (w : World) (v : Value) => v = .bool true,
   fun (w : World) (v : Value) => v = .bool true,
   fun (w : World) (v : Value) => v = .bool true,
   fun (w : World) (v : Value) => v = .int .u32 tm,
   fun (w : World) (v : Value) => v = .pointer (some ⟨gx, 1, none⟩),
   fun (w : World) (v : Value) => v = .int .u32 x1,
   fun (w : World) (v : Value) => v = .bool true,
   fun (w : World) (v : Value) => v = .bool true,
   fun (w : World) (v : Value) => v = .bool true,
   fun (w : World) (v : Value) => v = .int .u32 tm,
   fun (w : World) (v : Value) => v = .int .i64 o,
   fun (w : World) (v : Value) => v = .bool false,
   fun (w : World) (v : Value) => v = .bool false,
   fun (w : World) (v : Value) => v = .agg (boardC f m),
   fun (w : World) (v : Value) => v = .int .i64 o,
   fun (w : World) (v : Value) => ∃ A c, v = .slice A (shownL f m o).length c,
   fun (w : World) (v : Value) => v = .int .i64 (shownL f m o).length,
   fun (w : World) (v : Value) => v = .agg (boardC (showF f j tm) m),
   fun (w : World) (v : Value) => v = .int .i64 o,
   fun (w : World) (v : Value) => ∃ A c, v = .slice A (shownL f m o).length c,
   fun (w : World) (v : Value) => v = .int .i64 (shownL f m o).length,
   fun (w : World) (v : Value) => v = .bool true,
   fun (w : World) (v : Value) => v = .bool true,
   fun (w : World) (v : Value) => v = .bool true,
   fun (w : World) (v : Value) => v = .bool true]
            (fun j => if j = 3 then some true else if j = 7 then some true else if j = 13 then some true else if j = 17 then some false else none)
            [(0, some 95), (1, some 96), (2, some 97), (3, some 98), (4, some 99), (5, some 100), (6, some 101), (7, some 102), (8, some 103), (9, some 104), (10, some 105), (11, some 106), (12, some 107), (13, some 108), (14, some 109), (15, some 110), (16, some 111), (17, some 112), (18, some 113), (19, some 114), (20, some 115), (21, some 116), (22, some 117), (23, some 118), (24, some 119), (25, some 120), (26, some 121), (27, some 122), (28, some 123), (29, some 8)]
            [3, 7, 13, 17]
            (by kernel_rfl) (by kernel_rfl) (by kernel_rfl) (by kernel_rfl) ?r18_2g ?r18_2s ⟨?r18_2o0, ?r18_2o1, ?r18_2o2, ?r18_2o3, ?r18_2o4, ?r18_2o5, ?r18_2o6, ?r18_2o7, ?r18_2o8, ?r18_2o9, ?r18_2o10, ?r18_2o11, ?r18_2o12, ?r18_2o13, ?r18_2o14, ?r18_2o15, ?r18_2o16, ?r18_2o17, ?r18_2o18, ?r18_2o19, ?r18_2o20, ?r18_2o21, ?r18_2o22, ?r18_2o23, ?r18_2o24, ?r18_2o25, ?r18_2o26, ?r18_2o27, ?r18_2o28, ?r18_2o29, trivial⟩ ?r18_2e
          case r18_2g =>
            intro j hj w v hv
            simp only [List.mem_cons, List.not_mem_nil, or_false] at hj
            rcases hj with rfl | rfl | rfl | rfl
            · have hv' : v = .bool true := hv; rw [hv']; rfl
            · have hv' : v = .bool true := hv; rw [hv']; rfl
            · have hv' : v = .bool true := hv; rw [hv']; rfl
            · have hv' : v = .bool false := hv; rw [hv']; rfl
          case r18_2s =>
            refine ⟨(fun w w' v hb h => h), (fun w w' v hb h => h), (fun w w' v hb h => h), (fun w w' v hb h => h), (fun w w' v hb h => h), (fun w w' v hb h => h), (fun w w' v hb h => h), (fun w w' v hb h => h), (fun w w' v hb h => h), (fun w w' v hb h => h), (fun w w' v hb h => h), (fun w w' v hb h => h), (fun w w' v hb h => h), (fun w w' v hb h => h), (fun w w' v hb h => h), (fun w w' v hb h => h), (fun w w' v hb h => h), (fun w w' v hb h => h), (fun w w' v hb h => h), (fun w w' v hb h => h), (fun w w' v hb h => h), (fun w w' v hb h => h), (fun w w' v hb h => h), (fun w w' v hb h => h), (fun w w' v hb h => h), (fun w w' v hb h => h), (fun w w' v hb h => h), (fun w w' v hb h => h), (fun w w' v hb h => h), (fun w w' v hb h => h), trivial⟩
          case r18_2o0 =>
            intro vs w hb hV
            rw [if_pos (by kernel_rfl)]
            generalize hρ : rho _ _ _ vs = ρ
            have e14 : ρ (.tmp 14) = .pointer (some ⟨gc, 0, none⟩) := by rw [← hρ]; kernel_rfl
            clear hρ hV
            exact runs_load 30 (.tmp 14) rfl gc e14 30 (boardC (showF f j tm) m) (0, 0) _ (((hb.block gc (blk_lt (G1.out.get (i := 1) rfl))).trans (G1.out.get (i := 1) rfl))) Try.underlying30 rfl (HI _ _).out ⟨Below.refl _ _, rfl⟩
          case r18_2o1 =>
            intro vs w hb hV
            rw [if_pos (by kernel_rfl)]
            generalize hρ : rho _ _ _ vs = ρ
            have e11 : ρ (.tmp 11) = .pointer (some ⟨gb, 0, none⟩) := by rw [← hρ]; kernel_rfl
            clear hρ hV
            exact runs_load 30 (.tmp 11) rfl gb e11 30 (boardC (showF f j tm) m) (0, 0) _ (((hb.block gb (blk_lt (G1.out.get (i := 2) rfl))).trans (G1.out.get (i := 2) rfl))) Try.underlying30 rfl (HI _ _).out ⟨Below.refl _ _, rfl⟩
          case r18_2o2 =>
            intro vs w hb hV
            rw [if_pos (by kernel_rfl)]
            generalize hρ : rho _ _ _ vs = ρ
            have d95 : (vs 0) = .agg (boardC (showF f j tm) m) := hV 0 (by kernel_rfl)
            have e95 : ρ (.tmp 95) = vs 0 := by rw [← hρ]; kernel_rfl
            rw [d95] at e95; clear d95
            have d96 : (vs 1) = .agg (boardC (showF f j tm) m) := hV 1 (by kernel_rfl)
            have e96 : ρ (.tmp 96) = vs 1 := by rw [← hρ]; kernel_rfl
            rw [d96] at e96; clear d96
            clear hρ hV
            have hbe := board_eql (showF f j tm) (showF f j tm) m m
            rw [sameB_refl] at hbe
            have hbg := board_guard
            refine runs_val (v := .bool true) (w' := w) ?_ ⟨Below.refl _ _, rfl⟩
            go_simp
          case r18_2o3 =>
            intro vs w hb hV
            rw [if_pos (by kernel_rfl)]
            generalize hρ : rho _ _ _ vs = ρ
            have d97 : (vs 2) = .bool true := hV 2 (by kernel_rfl)
            have e97 : ρ (.tmp 97) = vs 2 := by rw [← hρ]; kernel_rfl
            clear hρ hV
            refine runs_val (v := vs 2) (w' := w) ?_ ⟨Below.refl _ _, d97⟩
            go_simp
          case r18_2o4 =>
            intro vs w hb hV
            rw [if_pos (by kernel_rfl)]
            generalize hρ : rho _ _ _ vs = ρ
            have e15 : ρ (.tmp 15) = .bool false := by rw [← hρ]; kernel_rfl
            clear hρ hV
            refine runs_val (v := .bool false) (w' := w) ?_ ⟨Below.refl _ _, rfl⟩
            go_simp <;> (first | exact IntWalk.u64_in _ (by omega) | exact IntWalk.u32_in _ (by omega) | exact IntWalk.u16_in _ (by omega) | exact IntWalk.u8_in _ (by omega) | exact IntWalk.i64_in _ (by omega) | skip)
          case r18_2o5 =>
            intro vs w hb hV
            rw [if_pos (by kernel_rfl)]
            generalize hρ : rho _ _ _ vs = ρ
            have d99 : (vs 4) = .bool false := hV 4 (by kernel_rfl)
            have e99 : ρ (.tmp 99) = vs 4 := by rw [← hρ]; kernel_rfl
            rw [d99] at e99; clear d99
            clear hρ hV
            refine runs_val (v := .bool true) (w' := w) ?_ ⟨Below.refl _ _, rfl⟩
            go_simp <;> (first | exact IntWalk.u64_in _ (by omega) | exact IntWalk.u32_in _ (by omega) | exact IntWalk.u16_in _ (by omega) | exact IntWalk.u8_in _ (by omega) | exact IntWalk.i64_in _ (by omega) | skip)
          case r18_2o6 =>
            intro vs w hb hV
            rw [if_pos (by kernel_rfl)]
            generalize hρ : rho _ _ _ vs = ρ
            have d98 : (vs 3) = .bool true := hV 3 (by kernel_rfl)
            have e98 : ρ (.tmp 98) = vs 3 := by rw [← hρ]; kernel_rfl
            rw [d98] at e98; clear d98
            have d100 : (vs 5) = .bool true := hV 5 (by kernel_rfl)
            have e100 : ρ (.tmp 100) = vs 5 := by rw [← hρ]; kernel_rfl
            rw [d100] at e100; clear d100
            have econ : ∀ v : Value, ρ (.const v) = v := fun v => by rw [← hρ]; rfl
            clear hρ hV
            refine runs_val (v := .bool true) (w' := w) ?_ ⟨Below.refl _ _, rfl⟩
            go_simp <;> (first | exact IntWalk.u64_in _ (by omega) | exact IntWalk.u32_in _ (by omega) | exact IntWalk.u16_in _ (by omega) | exact IntWalk.u8_in _ (by omega) | exact IntWalk.i64_in _ (by omega) | skip)
          case r18_2o7 =>
            intro vs w hb hV
            rw [if_pos (by kernel_rfl)]
            generalize hρ : rho _ _ _ vs = ρ
            have d101 : (vs 6) = .bool true := hV 6 (by kernel_rfl)
            have e101 : ρ (.tmp 101) = vs 6 := by rw [← hρ]; kernel_rfl
            clear hρ hV
            refine runs_val (v := vs 6) (w' := w) ?_ ⟨Below.refl _ _, d101⟩
            go_simp
          case r18_2o8 =>
            intro vs w hb hV
            rw [if_pos (by kernel_rfl)]
            generalize hρ : rho _ _ _ vs = ρ
            have e2 : ρ (.tmp 2) = .int .u32 tm := by rw [← hρ]; kernel_rfl
            clear hρ hV
            refine runs_val (v := .int .u32 tm) (w' := w) ?_ ⟨Below.refl _ _, rfl⟩
            go_simp <;> (first | exact IntWalk.u64_in _ (by omega) | exact IntWalk.u32_in _ (by omega) | exact IntWalk.u16_in _ (by omega) | exact IntWalk.u8_in _ (by omega) | exact IntWalk.i64_in _ (by omega) | skip)
          case r18_2o9 =>
            intro vs w hb hV
            rw [if_pos (by kernel_rfl)]
            generalize hρ : rho _ _ _ vs = ρ
            have e23 : ρ (.tmp 23) = .pointer (some ⟨gx, 0, none⟩) := by rw [← hρ]; kernel_rfl
            clear hρ hV
            refine runs_val (v := .pointer (some ⟨gx, 1, none⟩)) (w' := w) ?_ ⟨Below.refl _ _, rfl⟩
            go_simp <;> (first | exact IntWalk.u64_in _ (by omega) | exact IntWalk.u32_in _ (by omega) | exact IntWalk.u16_in _ (by omega) | exact IntWalk.u8_in _ (by omega) | exact IntWalk.i64_in _ (by omega) | skip)
          case r18_2o10 =>
            intro vs w hb hV
            rw [if_pos (by kernel_rfl)]
            generalize hρ : rho _ _ _ vs = ρ
            have d104 : (vs 9) = .pointer (some ⟨gx, 1, none⟩) := hV 9 (by kernel_rfl)
            have e104 : ρ (.tmp 104) = vs 9 := by rw [← hρ]; kernel_rfl
            rw [d104] at e104; clear d104
            clear hρ hV
            have c1 : w.cell? ⟨gx, 1, none⟩ = some (.int .u32 x1) := pw_cell_below hb (blk_cell (G1.out.get (i := 0) rfl) 1)
            refine runs_val (v := .int .u32 x1) (w' := w) ?_ ⟨Below.refl _ _, rfl⟩
            go_simp
          case r18_2o11 =>
            intro vs w hb hV
            rw [if_pos (by kernel_rfl)]
            generalize hρ : rho _ _ _ vs = ρ
            have d103 : (vs 8) = .int .u32 tm := hV 8 (by kernel_rfl)
            have e103 : ρ (.tmp 103) = vs 8 := by rw [← hρ]; kernel_rfl
            rw [d103] at e103; clear d103
            have d105 : (vs 10) = .int .u32 x1 := hV 10 (by kernel_rfl)
            have e105 : ρ (.tmp 105) = vs 10 := by rw [← hρ]; kernel_rfl
            rw [d105] at e105; clear d105
            have ef18 : ρ (.func 18) = .func (.func 18) #[] #[] := by rw [← hρ]; rfl
            clear hρ hV
            refine runs_call (f := 18) (args := #[.int .u32 tm, .int .u32 x1]) (w' := w) ?_ ?_
            · go_simp
            · refine (KW.out _).mono ?_
              rintro e w5 ⟨rfl, hd5⟩
              exact ⟨_, rfl, hd5.below, rfl⟩
          case r18_2o12 =>
            intro vs w hb hV
            rw [if_pos (by kernel_rfl)]
            generalize hρ : rho _ _ _ vs = ρ
            have d102 : (vs 7) = .bool true := hV 7 (by kernel_rfl)
            have e102 : ρ (.tmp 102) = vs 7 := by rw [← hρ]; kernel_rfl
            rw [d102] at e102; clear d102
            have d106 : (vs 11) = .bool true := hV 11 (by kernel_rfl)
            have e106 : ρ (.tmp 106) = vs 11 := by rw [← hρ]; kernel_rfl
            rw [d106] at e106; clear d106
            have econ : ∀ v : Value, ρ (.const v) = v := fun v => by rw [← hρ]; rfl
            clear hρ hV
            refine runs_val (v := .bool true) (w' := w) ?_ ⟨Below.refl _ _, rfl⟩
            go_simp <;> (first | exact IntWalk.u64_in _ (by omega) | exact IntWalk.u32_in _ (by omega) | exact IntWalk.u16_in _ (by omega) | exact IntWalk.u8_in _ (by omega) | exact IntWalk.i64_in _ (by omega) | skip)
          case r18_2o13 =>
            intro vs w hb hV
            rw [if_pos (by kernel_rfl)]
            generalize hρ : rho _ _ _ vs = ρ
            have d107 : (vs 12) = .bool true := hV 12 (by kernel_rfl)
            have e107 : ρ (.tmp 107) = vs 12 := by rw [← hρ]; kernel_rfl
            clear hρ hV
            refine runs_val (v := vs 12) (w' := w) ?_ ⟨Below.refl _ _, d107⟩
            go_simp
          case r18_2o14 =>
            intro vs w hb hV
            rw [if_pos (by kernel_rfl)]
            generalize hρ : rho _ _ _ vs = ρ
            have e2 : ρ (.tmp 2) = .int .u32 tm := by rw [← hρ]; kernel_rfl
            clear hρ hV
            refine runs_val (v := .int .u32 tm) (w' := w) ?_ ⟨Below.refl _ _, rfl⟩
            go_simp <;> (first | exact IntWalk.u64_in _ (by omega) | exact IntWalk.u32_in _ (by omega) | exact IntWalk.u16_in _ (by omega) | exact IntWalk.u8_in _ (by omega) | exact IntWalk.i64_in _ (by omega) | skip)
          case r18_2o15 =>
            intro vs w hb hV
            rw [if_pos (by kernel_rfl)]
            generalize hρ : rho _ _ _ vs = ρ
            have e3 : ρ (.tmp 3) = .int .i64 o := by rw [← hρ]; kernel_rfl
            clear hρ hV
            refine runs_val (v := .int .i64 o) (w' := w) ?_ ⟨Below.refl _ _, rfl⟩
            go_simp <;> (first | exact IntWalk.u64_in _ (by omega) | exact IntWalk.u32_in _ (by omega) | exact IntWalk.u16_in _ (by omega) | exact IntWalk.u8_in _ (by omega) | exact IntWalk.i64_in _ (by omega) | skip)
          case r18_2o16 =>
            intro vs w hb hV
            rw [if_pos (by kernel_rfl)]
            generalize hρ : rho _ _ _ vs = ρ
            have d109 : (vs 14) = .int .u32 tm := hV 14 (by kernel_rfl)
            have e109 : ρ (.tmp 109) = vs 14 := by rw [← hρ]; kernel_rfl
            rw [d109] at e109; clear d109
            have d110 : (vs 15) = .int .i64 o := hV 15 (by kernel_rfl)
            have e110 : ρ (.tmp 110) = vs 15 := by rw [← hρ]; kernel_rfl
            rw [d110] at e110; clear d110
            have ef19 : ρ (.func 19) = .func (.func 19) #[] #[] := by rw [← hρ]; rfl
            clear hρ hV
            refine runs_call (f := 19) (args := #[.int .u32 tm, .int .i64 o]) (w' := w) ?_ ?_
            · go_simp
            · have KH2 := KH.out w
              rw [hh] at KH2
              refine KH2.mono ?_
              rintro e w5 ⟨rfl, hd5⟩
              exact ⟨_, rfl, hd5.below, rfl⟩
          case r18_2o17 =>
            intro vs w hb hV
            rw [if_pos (by kernel_rfl)]
            generalize hρ : rho _ _ _ vs = ρ
            have d111 : (vs 16) = .bool false := hV 16 (by kernel_rfl)
            have e111 : ρ (.tmp 111) = vs 16 := by rw [← hρ]; kernel_rfl
            clear hρ hV
            refine runs_val (v := vs 16) (w' := w) ?_ ⟨Below.refl _ _, d111⟩
            go_simp
          case r18_2o18 =>
            intro vs w hb hV
            rw [if_pos (by kernel_rfl)]
            generalize hρ : rho _ _ _ vs = ρ
            have e9 : ρ (.tmp 9) = .pointer (some ⟨ga, 0, none⟩) := by rw [← hρ]; kernel_rfl
            clear hρ hV
            exact runs_load 30 (.tmp 9) rfl ga e9 30 (boardC f m) (0, 0) _ (((hb.block ga (blk_lt (G1.out.get (i := 3) rfl))).trans (G1.out.get (i := 3) rfl))) Try.underlying30 rfl (HI _ _).out ⟨Below.refl _ _, rfl⟩
          case r18_2o19 =>
            intro vs w hb hV
            rw [if_pos (by kernel_rfl)]
            generalize hρ : rho _ _ _ vs = ρ
            have e3 : ρ (.tmp 3) = .int .i64 o := by rw [← hρ]; kernel_rfl
            clear hρ hV
            refine runs_val (v := .int .i64 o) (w' := w) ?_ ⟨Below.refl _ _, rfl⟩
            go_simp <;> (first | exact IntWalk.u64_in _ (by omega) | exact IntWalk.u32_in _ (by omega) | exact IntWalk.u16_in _ (by omega) | exact IntWalk.u8_in _ (by omega) | exact IntWalk.i64_in _ (by omega) | skip)
          case r18_2o20 =>
            intro vs w hb hV
            rw [if_pos (by kernel_rfl)]
            generalize hρ : rho _ _ _ vs = ρ
            have d113 : (vs 18) = .agg (boardC f m) := hV 18 (by kernel_rfl)
            have e113 : ρ (.tmp 113) = vs 18 := by rw [← hρ]; kernel_rfl
            rw [d113] at e113; clear d113
            have d114 : (vs 19) = .int .i64 o := hV 19 (by kernel_rfl)
            have e114 : ρ (.tmp 114) = vs 19 := by rw [← hρ]; kernel_rfl
            rw [d114] at e114; clear d114
            have ef17 : ρ (.func 17) = .func (.func 17) #[] #[] := by rw [← hρ]; rfl
            clear hρ hV
            refine runs_call (f := 17) (args := #[.agg (boardC f m), .int .i64 o]) (w' := w) ?_ ?_
            · go_simp
            · refine (shown_any f m o _ H48.out).mono ?_
              rintro e w5 ⟨v, rfl, hv, hb5⟩
              obtain ⟨A1, c1, e1, _⟩ := Kd.R_reads hv
              exact ⟨_, rfl, hb5, A1, c1, e1⟩
          case r18_2o21 =>
            intro vs w hb hV
            rw [if_pos (by kernel_rfl)]
            generalize hρ : rho _ _ _ vs = ρ
            have d115 : (fun (w : World) (v : Value) => ∃ A c, v = .slice A (shownL f m o).length c) w (vs 20) := hV 20 (by kernel_rfl)
            have e115 : ρ (.tmp 115) = vs 20 := by rw [← hρ]; kernel_rfl
            obtain ⟨A115, c115, h115⟩ := d115
            clear hρ hV
            rw [h115] at e115
            refine runs_val (v := .int .i64 (shownL f m o).length) (w' := w) ?_ ⟨Below.refl _ _, rfl⟩
            go_simp
          case r18_2o22 =>
            intro vs w hb hV
            rw [if_pos (by kernel_rfl)]
            generalize hρ : rho _ _ _ vs = ρ
            have e11 : ρ (.tmp 11) = .pointer (some ⟨gb, 0, none⟩) := by rw [← hρ]; kernel_rfl
            clear hρ hV
            exact runs_load 30 (.tmp 11) rfl gb e11 30 (boardC (showF f j tm) m) (0, 0) _ (((hb.block gb (blk_lt (G1.out.get (i := 2) rfl))).trans (G1.out.get (i := 2) rfl))) Try.underlying30 rfl (HI _ _).out ⟨Below.refl _ _, rfl⟩
          case r18_2o23 =>
            intro vs w hb hV
            rw [if_pos (by kernel_rfl)]
            generalize hρ : rho _ _ _ vs = ρ
            have e3 : ρ (.tmp 3) = .int .i64 o := by rw [← hρ]; kernel_rfl
            clear hρ hV
            refine runs_val (v := .int .i64 o) (w' := w) ?_ ⟨Below.refl _ _, rfl⟩
            go_simp <;> (first | exact IntWalk.u64_in _ (by omega) | exact IntWalk.u32_in _ (by omega) | exact IntWalk.u16_in _ (by omega) | exact IntWalk.u8_in _ (by omega) | exact IntWalk.i64_in _ (by omega) | skip)
          case r18_2o24 =>
            intro vs w hb hV
            rw [if_pos (by kernel_rfl)]
            generalize hρ : rho _ _ _ vs = ρ
            have d117 : (vs 22) = .agg (boardC (showF f j tm) m) := hV 22 (by kernel_rfl)
            have e117 : ρ (.tmp 117) = vs 22 := by rw [← hρ]; kernel_rfl
            rw [d117] at e117; clear d117
            have d118 : (vs 23) = .int .i64 o := hV 23 (by kernel_rfl)
            have e118 : ρ (.tmp 118) = vs 23 := by rw [← hρ]; kernel_rfl
            rw [d118] at e118; clear d118
            have ef17 : ρ (.func 17) = .func (.func 17) #[] #[] := by rw [← hρ]; rfl
            clear hρ hV
            refine runs_call (f := 17) (args := #[.agg (boardC (showF f j tm) m), .int .i64 o]) (w' := w) ?_ ?_
            · go_simp
            · refine (shown_any (showF f j tm) m o _ H48.out).mono ?_
              rintro e w5 ⟨v, rfl, hv, hb5⟩
              obtain ⟨A1, c1, e1, _⟩ := Kd.R_reads hv
              exact ⟨_, rfl, hb5, A1, c1, by rw [KE.out hh] at e1; exact e1⟩
          case r18_2o25 =>
            intro vs w hb hV
            rw [if_pos (by kernel_rfl)]
            generalize hρ : rho _ _ _ vs = ρ
            have d119 : (fun (w : World) (v : Value) => ∃ A c, v = .slice A (shownL f m o).length c) w (vs 24) := hV 24 (by kernel_rfl)
            have e119 : ρ (.tmp 119) = vs 24 := by rw [← hρ]; kernel_rfl
            obtain ⟨A119, c119, h119⟩ := d119
            clear hρ hV
            rw [h119] at e119
            refine runs_val (v := .int .i64 (shownL f m o).length) (w' := w) ?_ ⟨Below.refl _ _, rfl⟩
            go_simp
          case r18_2o26 =>
            intro vs w hb hV
            rw [if_pos (by kernel_rfl)]
            generalize hρ : rho _ _ _ vs = ρ
            have d116 : (vs 21) = .int .i64 (shownL f m o).length := hV 21 (by kernel_rfl)
            have e116 : ρ (.tmp 116) = vs 21 := by rw [← hρ]; kernel_rfl
            rw [d116] at e116; clear d116
            have d120 : (vs 25) = .int .i64 (shownL f m o).length := hV 25 (by kernel_rfl)
            have e120 : ρ (.tmp 120) = vs 25 := by rw [← hρ]; kernel_rfl
            rw [d120] at e120; clear d120
            clear hρ hV
            refine runs_val (v := .bool true) (w' := w) ?_ ⟨Below.refl _ _, rfl⟩
            go_simp <;> (first | exact IntWalk.u64_in _ (by omega) | exact IntWalk.u32_in _ (by omega) | exact IntWalk.u16_in _ (by omega) | exact IntWalk.u8_in _ (by omega) | exact IntWalk.i64_in _ (by omega) | skip)
          case r18_2o27 =>
            intro vs w hb hV
            rw [if_pos (by kernel_rfl)]
            generalize hρ : rho _ _ _ vs = ρ
            have d112 : (vs 17) = .bool false := hV 17 (by kernel_rfl)
            have e112 : ρ (.tmp 112) = vs 17 := by rw [← hρ]; kernel_rfl
            rw [d112] at e112; clear d112
            have d121 : (vs 26) = .bool true := hV 26 (by kernel_rfl)
            have e121 : ρ (.tmp 121) = vs 26 := by rw [← hρ]; kernel_rfl
            rw [d121] at e121; clear d121
            have econ : ∀ v : Value, ρ (.const v) = v := fun v => by rw [← hρ]; rfl
            clear hρ hV
            refine runs_val (v := .bool true) (w' := w) ?_ ⟨Below.refl _ _, rfl⟩
            go_simp <;> (first | exact IntWalk.u64_in _ (by omega) | exact IntWalk.u32_in _ (by omega) | exact IntWalk.u16_in _ (by omega) | exact IntWalk.u8_in _ (by omega) | exact IntWalk.i64_in _ (by omega) | skip)
          case r18_2o28 =>
            intro vs w hb hV
            rw [if_pos (by kernel_rfl)]
            generalize hρ : rho _ _ _ vs = ρ
            have d108 : (vs 13) = .bool true := hV 13 (by kernel_rfl)
            have e108 : ρ (.tmp 108) = vs 13 := by rw [← hρ]; kernel_rfl
            rw [d108] at e108; clear d108
            have d122 : (vs 27) = .bool true := hV 27 (by kernel_rfl)
            have e122 : ρ (.tmp 122) = vs 27 := by rw [← hρ]; kernel_rfl
            rw [d122] at e122; clear d122
            have econ : ∀ v : Value, ρ (.const v) = v := fun v => by rw [← hρ]; rfl
            clear hρ hV
            refine runs_val (v := .bool true) (w' := w) ?_ ⟨Below.refl _ _, rfl⟩
            go_simp <;> (first | exact IntWalk.u64_in _ (by omega) | exact IntWalk.u32_in _ (by omega) | exact IntWalk.u16_in _ (by omega) | exact IntWalk.u8_in _ (by omega) | exact IntWalk.i64_in _ (by omega) | skip)
          case r18_2o29 =>
            intro vs w hb hV
            rw [if_pos (by kernel_rfl)]
            generalize hρ : rho _ _ _ vs = ρ
            have d123 : (vs 28) = .bool true := hV 28 (by kernel_rfl)
            have e123 : ρ (.tmp 123) = vs 28 := by rw [← hρ]; kernel_rfl
            clear hρ hV
            refine runs_val (v := vs 28) (w' := w) ?_ ⟨Below.refl _ _, d123⟩
            go_simp
          case r18_2e =>
            intro vs V2 hb2 hV
            have d95 : (vs 0) = .agg (boardC (showF f j tm) m) := hV 0 (Nat.le_of_ble_eq_true rfl)
            have d96 : (vs 1) = .agg (boardC (showF f j tm) m) := hV 1 (Nat.le_of_ble_eq_true rfl)
            have d97 : (vs 2) = .bool true := hV 2 (Nat.le_of_ble_eq_true rfl)
            have d98 : (vs 3) = .bool true := hV 3 (Nat.le_of_ble_eq_true rfl)
            have d99 : (vs 4) = .bool false := hV 4 (Nat.le_of_ble_eq_true rfl)
            have d100 : (vs 5) = .bool true := hV 5 (Nat.le_of_ble_eq_true rfl)
            have d101 : (vs 6) = .bool true := hV 6 (Nat.le_of_ble_eq_true rfl)
            have d102 : (vs 7) = .bool true := hV 7 (Nat.le_of_ble_eq_true rfl)
            have d103 : (vs 8) = .int .u32 tm := hV 8 (Nat.le_of_ble_eq_true rfl)
            have d104 : (vs 9) = .pointer (some ⟨gx, 1, none⟩) := hV 9 (Nat.le_of_ble_eq_true rfl)
            have d105 : (vs 10) = .int .u32 x1 := hV 10 (Nat.le_of_ble_eq_true rfl)
            have d106 : (vs 11) = .bool true := hV 11 (Nat.le_of_ble_eq_true rfl)
            have d107 : (vs 12) = .bool true := hV 12 (Nat.le_of_ble_eq_true rfl)
            have d108 : (vs 13) = .bool true := hV 13 (Nat.le_of_ble_eq_true rfl)
            have d109 : (vs 14) = .int .u32 tm := hV 14 (Nat.le_of_ble_eq_true rfl)
            have d110 : (vs 15) = .int .i64 o := hV 15 (Nat.le_of_ble_eq_true rfl)
            have d111 : (vs 16) = .bool false := hV 16 (Nat.le_of_ble_eq_true rfl)
            have d112 : (vs 17) = .bool false := hV 17 (Nat.le_of_ble_eq_true rfl)
            have d113 : (vs 18) = .agg (boardC f m) := hV 18 (Nat.le_of_ble_eq_true rfl)
            have d114 : (vs 19) = .int .i64 o := hV 19 (Nat.le_of_ble_eq_true rfl)
            have d115 : (fun (w : World) (v : Value) => ∃ A c, v = .slice A (shownL f m o).length c) V2 (vs 20) := hV 20 (Nat.le_of_ble_eq_true rfl)
            have d116 : (vs 21) = .int .i64 (shownL f m o).length := hV 21 (Nat.le_of_ble_eq_true rfl)
            have d117 : (vs 22) = .agg (boardC (showF f j tm) m) := hV 22 (Nat.le_of_ble_eq_true rfl)
            have d118 : (vs 23) = .int .i64 o := hV 23 (Nat.le_of_ble_eq_true rfl)
            have d119 : (fun (w : World) (v : Value) => ∃ A c, v = .slice A (shownL f m o).length c) V2 (vs 24) := hV 24 (Nat.le_of_ble_eq_true rfl)
            have d120 : (vs 25) = .int .i64 (shownL f m o).length := hV 25 (Nat.le_of_ble_eq_true rfl)
            have d121 : (vs 26) = .bool true := hV 26 (Nat.le_of_ble_eq_true rfl)
            have d122 : (vs 27) = .bool true := hV 27 (Nat.le_of_ble_eq_true rfl)
            have d123 : (vs 28) = .bool true := hV 28 (Nat.le_of_ble_eq_true rfl)
            have d8 : (vs 29) = .bool true := hV 29 (Nat.le_of_ble_eq_true rfl)
            clear hV
            simp only [putAll]
            rw [d95, d96, d97, d98, d99, d100, d101, d102, d103, d104, d105, d106, d107, d108, d109, d110, d111, d112, d113, d114, d116, d117, d118, d120, d121, d122, d123, d8]
            clear d95 d96 d97 d98 d99 d100 d101 d102 d103 d104 d105 d106 d107 d108 d109 d110 d111 d112 d113 d114 d116 d117 d118 d120 d121 d122 d123 d8
            generalize vs 20 = v115 at *
            generalize vs 24 = v119 at *
            clear vs
            simp only [Act.put, List.setIfInBounds_toArray, List.set_cons_zero, List.set_cons_succ]
            have G2 := Aside0.mk (G1.out.call hb2)
            clear hb2
            go_wp2_with fail
            go_ret
            exact ⟨rfl, G2.out.bel⟩
  · have KS := Aside0.mk (fun X : World => show_no f m i tm X hi)
    have hbe := board_eql f f m m
    rw [sameB_refl] at hbe
    have hbg := board_guard
    have HBE := Aside0.mk (And.intro hbe hbg)
    clear hi hbe hbg
    have HZ := Aside0.mk (blk_new w3 (.cells (boardC (fun _ => z25) 0) 30))
    have HP4 := Aside0.mk ((HP3.out.alloc (.cells (boardC (fun _ => z25) 0) 30)).setRow (i := 0) rfl (boardC f m))
    clear HP3
    go_wp2_with (first | (refine wpList_store_row rfl 30 (.tmp 9) (.tmp 32) rfl (w3.heap.size) (boardC f m) rfl rfl 30 _ HZ.out (HI _ _).out (by rw [boardC_size, boardC_size]) (HO _ _).out ?_) | (refine wpList_load_row rfl 30 (.tmp 9) rfl (w3.heap.size) rfl 30 _ (0, 0) _ (HP4.out.get (i := 0) rfl) Try.underlying30 rfl (HI _ _).out ?_))
    clear HZ
    generalize (w3.alloc (.cells (boardC (fun _ => z25) 0) 30)).setRow w3.heap.size (boardC f m) = w4 at *
    generalize w3.heap.size = ga at *
    refine (KS.out _).mono ?_
    rintro e w5 ⟨rfl, hb5⟩
    have HP5 := Aside0.mk (HP4.out.call hb5)
    obtain ⟨hbe, hbg⟩ := HBE.out
    clear hb5 HP4 KS
    have HZ := Aside0.mk (blk_new w5 (.cells (boardC (fun _ => z25) 0) 30))
    have HP6 := Aside0.mk ((HP5.out.alloc (.cells (boardC (fun _ => z25) 0) 30)).setRow (i := 0) rfl (boardC f m))
    clear HP5
    go_wp2_with (first | (refine wpList_store_row rfl 30 (.tmp 11) (.tmp 39) rfl (w5.heap.size) (boardC f m) rfl rfl 30 _ HZ.out (HI _ _).out (by rw [boardC_size, boardC_size]) (HO _ _).out ?_) | (refine wpList_load_row rfl 30 (.tmp 11) rfl (w5.heap.size) rfl 30 _ (0, 0) _ (HP6.out.get (i := 0) rfl) Try.underlying30 rfl (HI _ _).out ?_) | (refine wpList_load_row rfl 30 (.tmp 9) rfl (ga) rfl 30 _ (0, 0) _ (HP6.out.get (i := 1) rfl) Try.underlying30 rfl (HI _ _).out ?_))
    clear HZ
    generalize (w5.alloc (.cells (boardC (fun _ => z25) 0) 30)).setRow w5.heap.size (boardC f m) = w6 at *
    generalize w5.heap.size = gb at *
    go_ret
    exact ⟨rfl, HP6.out.bel⟩
end Go.Proofs.Ytkjjmmgngdpppaa
