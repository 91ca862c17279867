/- The walk of BoardFull. -/
import Derived.Test.YtkjjmmgngdpppaaUj
namespace Go.Proofs.Ytkjjmmgngdpppaa
open Go.RowKit Go.Proofs.YtkjjmmgngdpppaaW.PrintWords Go.Proofs.YtkjjmmgngdpppaaW.PrintLast Go.Proofs.YtkjjmmgngdpppaaW.PrintMore
set_option linter.unusedVariables false
set_option linter.unusedSimpArgs false

/-- What New answers to a list, whatever its length. -/
theorem new_all (A : Option Addr) (n c : Nat) (L : List S25) (hn : L.length = n) : ∃ (f : Nat → S25) (N E : Int), (n ≤ 48 → f = fL L ∧ N = n ∧ E = 0) ∧ (48 < n → f = (fun _ => z25) ∧ N = 0 ∧ E = 6) ∧
    ∀ w : World, k25.C w A n L → n ≤ c → Calls Try.prog 11 #[.slice A n c] w fun e w' => e = .returned (.tuple #[.agg (boardC f N), .int .i64 E]) ∧ Below w.heap.size w w' := by
  by_cases h : n ≤ 48
  · exact ⟨fL L, n, 0, fun _ => ⟨rfl, rfl, rfl⟩, fun h2 => by omega, fun w hr hc => new_any A n c L w hr hc h⟩
  · exact ⟨fun _ => z25, 0, 6, fun h2 => by omega, fun _ => ⟨rfl, rfl, rfl⟩, fun w hr hc => new_full A n c w (by omega)⟩
theorem below_on {B : Nat} {w w1 w2 : World} (h : Below B w w1) (hb : Below w1.heap.size w1 w2) (hB : B ≤ w1.heap.size) : Below B w w2 := h.trans (hb.mono hB)
theorem rep_get (x : S25) (k j : Nat) (h : j < k) : fL (List.replicate k x) j = x := by
  unfold fL; rw [List.getD_eq_getElem?_getD, List.getElem?_eq_getElem (by simpa using h)]; simp

theorem at_last (f : Nat → S25) (t : Nat) (x : S25) (h48 : t ≤ 48) (hf : ∀ i, i < t → f i = x) : ∃ (y : S25) (ok : Bool), (0 < t → ok = true ∧ y = x) ∧
    ∀ w : World, Calls Try.prog 13 #[.agg (boardC f t), .int .i64 ((t : Int) - 1)] w fun e w' => e = .returned (.tuple #[.agg #[.int .i32 y.f0, .int .u32 y.f1], .bool ok]) ∧ Below w.heap.size w w' := by
  cases t with
  | zero => exact ⟨z25, false, fun h => by omega, fun w => at_no f _ _ w (by omega)⟩
  | succ r =>
    refine ⟨x, true, fun _ => ⟨rfl, rfl⟩, fun w => ?_⟩
    have := at_any f (r + 1) r w (by omega) h48
    rw [hf r (by omega)] at this
    rw [show ((r + 1 : Nat) : Int) - 1 = r by omega]
    exact this

set_option maxRecDepth 100000 in
set_option maxHeartbeats 4000000 in
theorem full_walk (a b c : Int) (w : World) (ha : 0 ≤ a ∧ a < 256) :
    Calls Try.prog 3 #[.int .u8 a, .agg #[.int .i32 b, .int .u32 c]] w fun e w' => e = .returned (.bool true) ∧ Below w.heap.size w w' := by
  have e1 : a.tmod 60 = a % 60 := Int.tmod_eq_emod_of_nonneg ha.1
  obtain ⟨k, hk⟩ : ∃ k : Nat, a % 60 = k := ⟨(a % 60).toNat, by omega⟩
  have hk60 : k < 60 := by omega
  rw [hk] at e1
  have HI := fun f m => Aside0.mk (board_info f m)
  have HO := fun f m => Aside0.mk (boardC_one f m)
  have hz := zero_board
  have hmk := make_cells k (by omega)
  obtain ⟨x, hx⟩ : ∃ x : S25, x = ⟨b, c⟩ := ⟨_, rfl⟩
  have HX : b = x.f0 ∧ c = x.f1 := by rw [hx]; exact ⟨rfl, rfl⟩
  obtain ⟨rfl, rfl⟩ := HX
  clear hx
  have HB0 := Aside0.mk (below_alloc (Below.refl w.heap.size w) (.cells #[.int .i32 x.f0, .int .u32 x.f1] 25))
  have P0 := Aside0.mk (blk_new w (.cells #[.int .i32 x.f0, .int .u32 x.f1] 25))
  go_enter Try.func3, Try.ntmps3
  go_wp2_with fail
  refine (awake_any _).mono ?_
  rintro e w1 ⟨rfl, hb1⟩
  have HB1 := Aside0.mk (below_step HB0.out hb1)
  have P1 := Aside0.mk (blk_below P0.out hb1)
  have hlt1 : w.heap.size < w1.heap.size := blk_lt P1.out
  have HB2 := Aside0.mk (below_step HB1.out (below_alloc (Below.refl _ _) (.cells (flatC (List.replicate k z25)).toArray 25)))
  have P2 := Aside0.mk (blk_alloc P1.out (.cells (flatC (List.replicate k z25)).toArray 25))
  have R2 : Aside0 (Rc (w1.alloc (.cells (flatC (List.replicate k z25)).toArray 25)) w1.heap.size (List.replicate 0 x ++ List.replicate (k - 0) z25)) := ⟨blk_new _ _⟩
  clear hb1 HB0 P0 HB1 P1 ha hk
  go_wp2_with fail
  generalize w1.alloc (.cells (flatC (List.replicate k z25)).toArray 25) = W at *
  obtain ⟨g, hg⟩ : ∃ g, w1.heap.size = g := ⟨_, rfl⟩
  rw [hg] at R2 hlt1 ⊢
  clear hg
  generalize hgb : w.heap.size = gb at *
  have HGB := Aside0.mk hgb
  clear hgb
  have HLT := Aside0.mk hlt1
  clear hlt1
  go_loopw [24] (fun v24 wr => ∃ i : Nat, i ≤ k ∧ v24 = .int .i64 i ∧ Aside0 (Rc wr g (List.replicate i x ++ List.replicate (k - i) z25) ∧ wr.heap[gb]? = some (.cells #[.int .i32 x.f0, .int .u32 x.f1] 25 (0, 0)) ∧ Below gb w wr)) (fun v24 _ => k - (intOf v24).toNat)
  case atStart => exact ⟨0, by omega, rfl, ⟨R2.out, P2.out, HB2.out⟩⟩
  case round =>
    clear R2 P2 HB2
    obtain ⟨i, hi, rfl, H⟩ := hrel
    by_cases hlt : i < k
    · have d1 : decide (i < k) = true := decide_eq_true hlt
      have hl : i < (List.replicate i x ++ List.replicate (k - i) z25).length := by rw [mid_len _ _ _ _ hi]; exact hlt
      have a0 := blk_cell H.out.2.1 0
      have a1 := blk_cell H.out.2.1 1
      have c0 : wr.cell? ⟨g, 2 * i, none⟩ = some (.int .i32 z25.f0) := (H.out.1.lo hl).trans (by rw [mid_get _ _ _ _ hlt])
      have c1 : wr.cell? ⟨g, 2 * i + 1, none⟩ = some (.int .u32 z25.f1) := (H.out.1.hi hl).trans (by rw [mid_get _ _ _ _ hlt])
      have f0' := H.out.1.frozen (2 * i)
      have f1' := H.out.1.frozen (2 * i + 1)
      have H2 : Aside0 (Rc ((wr.setCell ⟨g, 2 * i, none⟩ (.int .i32 x.f0)).setCell ⟨g, 2 * i + 1, none⟩ (.int .u32 x.f1)) g (List.replicate (i + 1) x ++ List.replicate (k - (i + 1)) z25) ∧ ((wr.setCell ⟨g, 2 * i, none⟩ (.int .i32 x.f0)).setCell ⟨g, 2 * i + 1, none⟩ (.int .u32 x.f1)).heap[gb]? = some (.cells #[.int .i32 x.f0, .int .u32 x.f1] 25 (0, 0)) ∧ Below gb w ((wr.setCell ⟨g, 2 * i, none⟩ (.int .i32 x.f0)).setCell ⟨g, 2 * i + 1, none⟩ (.int .u32 x.f1))) := by
        refine ⟨⟨?_, ?_, (H.out.2.2.setCell (by have := HLT.out; simp; omega) _).setCell (by have := HLT.out; simp; omega) _⟩⟩
        · have := H.out.1.set hl x.f0 x.f1
          rw [show (⟨x.f0, x.f1⟩ : S25) = x from rfl, set_mid z25 x i k hlt] at this
          exact this
        · exact ((Below.heap_setCell _ _ _ _ (by have := HLT.out; simp; omega)).trans (Below.heap_setCell _ _ _ _ (by have := HLT.out; simp; omega))).trans H.out.2.1
      rw [Nat.mul_comm] at c0 c1 f0' f1' H2
      clear hl
      go_wp2_with fail
      go_roundw
      case rel => exact ⟨i + 1, by omega, by go_num, H2⟩
      case measure => simp [intOf]; omega
    · obtain rfl : i = k := by omega
      have d1 : decide (i < i) = false := decide_eq_false (by omega)
      have H1 : Aside0 (Rc wr g (List.replicate i x) ∧ wr.heap[gb]? = some (.cells #[.int .i32 x.f0, .int .u32 x.f1] 25 (0, 0)) ∧ Below gb w wr) := ⟨⟨by have := H.out.1; rw [Nat.sub_self, List.replicate_zero, List.append_nil] at this; exact this, H.out.2⟩⟩
      clear H hi hlt hmk
      obtain ⟨f, N, E, hle, hgt, KN⟩ := new_all (some ⟨g, 0, none⟩) i i (List.replicate i x) (by simp)
      have KN1 := Aside0.mk (KN wr (by have := H1.out.1.reads (by simp; omega); rw [List.length_replicate] at this; exact this) (Nat.le_refl _))
      have HC := Aside0.mk (And.intro hle hgt)
      clear KN hle hgt
      go_wp2_with fail
      refine KN1.out.mono ?_
      rintro e w2 ⟨rfl, hb2⟩
      have Q2 := Aside0.mk (And.intro (H1.out.1.below hb2) (And.intro (blk_below H1.out.2.1 hb2) (below_on H1.out.2.2 hb2 (Nat.le_of_lt (blk_lt H1.out.2.1)))))
      clear hb2 H1 KN1
      have hsz : gb ≤ w2.heap.size := Nat.le_of_lt (blk_lt Q2.out.2.1)
      have hgs : g < w2.heap.size := blk_lt Q2.out.1
      have HZ := Aside0.mk (blk_new w2 (.cells (boardC (fun _ => z25) 0) 30))
      have Q4 : Aside0 (Rc ((w2.alloc (.cells (boardC (fun _ => z25) 0) 30)).setRow w2.heap.size (boardC f N)) g (List.replicate i x) ∧ ((w2.alloc (.cells (boardC (fun _ => z25) 0) 30)).setRow w2.heap.size (boardC f N)).heap[gb]? = some (.cells #[.int .i32 x.f0, .int .u32 x.f1] 25 (0, 0)) ∧ Bd ((w2.alloc (.cells (boardC (fun _ => z25) 0) 30)).setRow w2.heap.size (boardC f N)) w2.heap.size f N ∧ Below gb w ((w2.alloc (.cells (boardC (fun _ => z25) 0) 30)).setRow w2.heap.size (boardC f N))) := by
        refine ⟨⟨?_, ?_, setRow_heap _ _ _ _ _ _ HZ.out, ?_⟩⟩
        · exact (setRow_other _ _ _ _ (by omega)).trans (blk_alloc Q2.out.1 _)
        · exact (setRow_other _ _ _ _ (by have := HLT.out; omega)).trans (blk_alloc Q2.out.2.1 _)
        · exact below_setRow (below_on Q2.out.2.2 (below_alloc (Below.refl _ _) _) (by omega)) hsz _
      have HS := Aside0.mk (And.intro hsz hgs)
      clear Q2 hsz hgs
      go_wp2_with (first | (refine wpList_store_row rfl 30 (.tmp 8) (.tmp 35) rfl w2.heap.size (boardC f N) rfl rfl 30 _ HZ.out (HI _ _).out (by rw [boardC_size, boardC_size]) (HO _ _).out ?_))
      have K4 : Aside0 (Rk ((w2.alloc (.cells (boardC (fun _ => z25) 0) 30)).setRow w2.heap.size (boardC f N)) g 0 i (fun _ => x)) := ⟨Rk_rep Q4.out.1⟩
      have J4 := Aside0.mk Q4.out.2
      clear Q4 HZ
      generalize (w2.alloc (.cells (boardC (fun _ => z25) 0) 30)).setRow w2.heap.size (boardC f N) = W4 at *
      generalize w2.heap.size = s at *
      go_loopw [39] (fun v39 wr => ∃ j : Nat, j ≤ i ∧ v39 = .int .i64 j ∧ Aside0 (Rk wr g j i (fun _ => x) ∧ wr.heap[gb]? = some (.cells #[.int .i32 x.f0, .int .u32 x.f1] 25 (0, 0)) ∧ Bd wr s f N ∧ Below gb w wr)) (fun v39 _ => i - (intOf v39).toNat)
      case atStart => exact ⟨0, by omega, rfl, ⟨K4.out, J4.out⟩⟩
      case round =>
        clear K4 J4
        obtain ⟨j, hj, rfl, H⟩ := hrel
        by_cases hlt : j < i
        · have d2 : decide (j < i) = true := decide_eq_true hlt
          have c0 := H.out.1.lo (Nat.le_refl _) hlt
          have f0' := H.out.1.frozen (2 * j)
          have H2 : Aside0 (Rk (wr.setCell ⟨g, 2 * j, none⟩ (.int .i32 (wrap32 (x.f0 + 1)))) g (j + 1) i (fun _ => x) ∧ (wr.setCell ⟨g, 2 * j, none⟩ (.int .i32 (wrap32 (x.f0 + 1)))).heap[gb]? = some (.cells #[.int .i32 x.f0, .int .u32 x.f1] 25 (0, 0)) ∧ Bd (wr.setCell ⟨g, 2 * j, none⟩ (.int .i32 (wrap32 (x.f0 + 1)))) s f N ∧ Below gb w (wr.setCell ⟨g, 2 * j, none⟩ (.int .i32 (wrap32 (x.f0 + 1))))) := by
            refine ⟨⟨H.out.1.setlo _, ?_, ?_, H.out.2.2.2.setCell (by have := HLT.out; simp; omega) _⟩⟩
            · exact (Below.heap_setCell _ _ _ _ (by have := HLT.out; simp; omega)).trans H.out.2.1
            · exact (Below.heap_setCell _ _ _ _ (by have := HS.out; simp; omega)).trans H.out.2.2.1
          rw [Nat.mul_comm] at c0 f0' H2
          go_wp2_with fail
          go_roundw
          case rel => exact ⟨j + 1, by omega, by go_num, H2⟩
          case measure => simp [intOf]; omega
        · obtain rfl : j = i := by omega
          have d2 : decide (j < j) = false := decide_eq_false (by omega)
          have Q5 := Aside0.mk H.out.2
          clear H hj hlt
          by_cases hbig : 48 < j
          · obtain ⟨rfl, rfl, rfl⟩ := HC.out.2 hbig
            have d3 : decide ((48 : Int) < j) = true := decide_eq_true (by omega)
            have d3' : (48 : Int) < j := by omega
            have hbe := board_eql (fun _ => z25) (fun _ => z25) 0 0
            rw [sameB_refl] at hbe
            have hbg := board_guard
            have hzb := z_board
            clear HC
            go_wp2_with fail
            refine wp_load_row 30 (.tmp 8) rfl s rfl 30 (boardC (fun _ => z25) 0) (0, 0) _ Q5.out.2.1 Try.underlying30 rfl (HI _ _).out ?_
            go_wp2_with fail
            go_ret
            exact ⟨rfl, by rw [HGB.out]; exact Q5.out.2.2⟩
          · have h48 : j ≤ 48 := by omega
            obtain ⟨hf, rfl, rfl⟩ := HC.out.1 h48
            have HF : Aside0 (∀ t, t < j → f t = x) := ⟨fun t ht => by rw [hf]; exact rep_get x j t ht⟩
            have d3 : decide ((48 : Int) < j) = false := decide_eq_false (by omega)
            have d3' : ¬ (48 : Int) < j := by omega
            have H48 := Aside0.mk h48
            clear HC hf h48 hbig
            go_wp2_with (first | (refine wpList_load_row rfl 30 (.tmp 8) rfl s rfl 30 (boardC f j) (0, 0) _ Q5.out.2.1 Try.underlying30 rfl (HI _ _).out ?_))
            refine (cells_any f j _ H48.out).mono ?_
            rintro e w6 ⟨v, rfl, ho, hb6⟩
            have hgw : gb < wr.heap.size := blk_lt Q5.out.1
            have hsw : s < wr.heap.size := blk_lt Q5.out.2.1
            have Q6 := Aside0.mk (And.intro (blk_below Q5.out.1 hb6) (And.intro (show Bd w6 s f j from blk_below Q5.out.2.1 hb6) (below_on Q5.out.2.2 hb6 (Nat.le_of_lt hgw))))
            obtain ⟨Q, d, g2, hv, hQ⟩ : ∃ Q d g2, v = .slice Q j d ∧ (0 < j → Q = some ⟨g2, 0, none⟩ ∧ gb < g2 ∧ s < g2 ∧ Rk w6 g2 0 j (fun _ => x)) := by
              rcases Rk_of_R ho with ⟨h0, rfl⟩ | ⟨g2, cap, rfl, h1, h2, h3⟩
              · have : j = 0 := by have := congrArg List.length h0; rwa [listF_length] at this
                subst this
                exact ⟨none, 0, 0, rfl, fun h => by omega⟩
              · rw [listF_length] at h3 ⊢
                refine ⟨_, cap, g2, rfl, fun _ => ⟨rfl, by omega, by omega, h3.imp (fun t _ ht => ?_)⟩⟩
                rw [← HF.out t ht]
                unfold fL listF
                rw [List.getD_eq_getElem?_getD, List.getElem?_map, List.getElem?_range ht]; rfl
            subst hv
            have HQ := Aside0.mk (And.intro hQ Q6.out)
            clear hQ Q6 ho hb6 Q5 hgw hsw
            go_wp2_with fail
            go_loopw [64] (fun v64 wr => ∃ t : Nat, t ≤ j ∧ v64 = .int .i64 t ∧ Aside0 ((0 < j → Q = some ⟨g2, 0, none⟩ ∧ gb < g2 ∧ s < g2 ∧ Rk wr g2 t j (fun _ => x)) ∧ wr.heap[gb]? = some (.cells #[.int .i32 x.f0, .int .u32 x.f1] 25 (0, 0)) ∧ Bd wr s f j ∧ Below gb w wr)) (fun v64 _ => j - (intOf v64).toNat)
            case atStart => exact ⟨0, by omega, rfl, HQ⟩
            case round =>
              clear HQ
              rename World => wq
              obtain ⟨t, ht, rfl, H⟩ := hrel
              by_cases hlt : t < j
              · have d4 : decide (t < j) = true := decide_eq_true hlt
                obtain ⟨rfl, hg1, hg2, hk⟩ := H.out.1 (by omega)
                have c0 := hk.lo (Nat.le_refl _) hlt
                have c1 := hk.hi (Nat.le_refl _) hlt
                have f0' := hk.frozen (2 * t)
                have a0 : wq.cell? ⟨gb, 0, none⟩ = some (.int .i32 x.f0) := blk_cell H.out.2.1 0
                have a1 : wq.cell? ⟨gb, 1, none⟩ = some (.int .u32 x.f1) := blk_cell H.out.2.1 1
                have H2 : Aside0 ((0 < j → some (⟨g2, 0, none⟩ : Addr) = some ⟨g2, 0, none⟩ ∧ gb < g2 ∧ s < g2 ∧ Rk (wq.setCell ⟨g2, 2 * t, none⟩ (.int .i32 (wrap32 (x.f0 + 2)))) g2 (t + 1) j (fun _ => x)) ∧ (wq.setCell ⟨g2, 2 * t, none⟩ (.int .i32 (wrap32 (x.f0 + 2)))).heap[gb]? = some (.cells #[.int .i32 x.f0, .int .u32 x.f1] 25 (0, 0)) ∧ Bd (wq.setCell ⟨g2, 2 * t, none⟩ (.int .i32 (wrap32 (x.f0 + 2)))) s f j ∧ Below gb w (wq.setCell ⟨g2, 2 * t, none⟩ (.int .i32 (wrap32 (x.f0 + 2))))) := by
                  refine ⟨⟨fun _ => ⟨rfl, hg1, hg2, hk.setlo _⟩, ?_, ?_, H.out.2.2.2.setCell (by simp; omega) _⟩⟩
                  · exact (Below.heap_setCell _ _ _ _ (by simp; omega)).trans H.out.2.1
                  · exact (Below.heap_setCell _ _ _ _ (by simp; omega)).trans H.out.2.2.1
                have hcn := cell_neq x.f0 x.f1 x.f0 x.f1
                rw [beq_self_eq_true, beq_self_eq_true, Bool.and_self, Bool.not_true] at hcn
                have hcg := cell_guard
                rw [Nat.mul_comm] at c0 c1 f0' H2
                clear H hk hg1 hg2
                go_wp2_with fail
                go_region
                go_wp2_with fail
                go_roundw
                case rel => exact ⟨t + 1, by omega, by go_num, ⟨H2.out.1, H2.out.2.1, H2.out.2.2.1, pw_below_drewN H2.out.2.2.2 1⟩⟩
                case measure => simp [intOf]; omega
              · obtain rfl : t = j := by omega
                have d4 : decide (t < t) = false := decide_eq_false (by omega)
                have Q7 := Aside0.mk H.out.2
                obtain ⟨y, ok, hyk, KA⟩ := at_last f t x H48.out HF.out
                clear H ht hlt
                go_wp2_with (first | (refine wpList_load_row rfl 30 (.tmp 8) rfl s rfl 30 (boardC f t) (0, 0) _ Q7.out.2.1 Try.underlying30 rfl (HI _ _).out ?_))
                refine (KA _).mono ?_
                rintro e w8 ⟨rfl, hb8⟩
                have hgw : gb < wq.heap.size := blk_lt Q7.out.1
                have hsw : s < wq.heap.size := blk_lt Q7.out.2.1
                have Q8 := Aside0.mk (And.intro (blk_below Q7.out.1 hb8) (And.intro (show Bd w8 s f t from blk_below Q7.out.2.1 hb8) (below_on Q7.out.2.2 hb8 (Nat.le_of_lt hgw))))
                have hs8 : s < w8.heap.size := blk_lt Q8.out.2.1
                have hg8 : gb < w8.heap.size := blk_lt Q8.out.1
                clear hb8 Q7 KA
                have QY := Aside0.mk (blk_new w8 (.cells #[.int .i32 y.f0, .int .u32 y.f1] 25))
                have Q9 := Aside0.mk (And.intro (blk_alloc Q8.out.1 (.cells #[.int .i32 y.f0, .int .u32 y.f1] 25)) (And.intro (show Bd _ s f t from blk_alloc Q8.out.2.1 (.cells #[.int .i32 y.f0, .int .u32 y.f1] 25)) (below_on Q8.out.2.2 (below_alloc (Below.refl _ _) (.cells #[.int .i32 y.f0, .int .u32 y.f1] 25)) (Nat.le_of_lt hg8))))
                have b0 := blk_cell QY.out 0
                have b1 := blk_cell QY.out 1
                clear Q8 hgw hsw hs8 
                have HG8 := Aside0.mk hg8
                clear hg8
                have hce := cell_eql x.f0 x.f1 x.f0 x.f1
                rw [beq_self_eq_true, beq_self_eq_true, Bool.and_self] at hce
                have hcg := cell_guard
                go_wp2_with fail
                refine wp_load_row 30 (.tmp 8) rfl s rfl 30 (boardC f t) (0, 0) _ Q9.out.2.1 Try.underlying30 rfl (HI _ _).out ?_
                go_wp2_with fail
                refine (len_any f t _).mono ?_
                rintro e w9 ⟨rfl, hb9⟩
                have hgq : gb < (w8.alloc (.cells #[.int .i32 y.f0, .int .u32 y.f1] 25)).heap.size := blk_lt Q9.out.1
                have QZ := blk_below QY.out hb9
                have R9 := blk_below Q9.out.1 hb9
                have HB9 := Aside0.mk (below_on Q9.out.2.2 hb9 (Nat.le_of_lt hgq))
                have m0 : w9.cell? ⟨w8.heap.size, 0, none⟩ = some (.int .i32 y.f0) := blk_cell QZ 0
                have m1 : w9.cell? ⟨w8.heap.size, 1, none⟩ = some (.int .u32 y.f1) := blk_cell QZ 1
                have n0 : w9.cell? ⟨gb, 0, none⟩ = some (.int .i32 x.f0) := blk_cell R9 0
                have n1 : w9.cell? ⟨gb, 1, none⟩ = some (.int .u32 x.f1) := blk_cell R9 1
                clear b0 b1 QY Q9 hb9 hgq QZ R9
                generalize w8.heap.size = q at *
                by_cases h0 : t = 0
                · subst h0
                  go_wp2_with fail
                  go_ret
                  exact ⟨rfl, by rw [HGB.out]; exact HB9.out⟩
                · obtain ⟨rfl, rfl⟩ := hyk (by omega)
                  have h0' : ((t : Int) == 0) = false := by simp; omega
                  go_wp2_with fail
                  go_ret
                  exact ⟨rfl, by rw [HGB.out]; exact HB9.out⟩
end Go.Proofs.Ytkjjmmgngdpppaa
