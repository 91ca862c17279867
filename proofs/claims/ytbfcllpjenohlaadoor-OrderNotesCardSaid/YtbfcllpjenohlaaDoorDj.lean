/- The document's acks: Note, the next one. -/
import Derived.Test.YtbfcllpjenohlaaDoorDi
namespace Go.Proofs.YtbfcllpjenohlaaDoor
open Go.RowKit Go.Proofs.YtbfcllpjenohlaaDoorW.PrintWords Go.Proofs.YtbfcllpjenohlaaDoorW.PrintLast Go.Proofs.YtbfcllpjenohlaaDoorW.PrintMore
set_option linter.unusedVariables false
set_option linter.unusedSimpArgs false

theorem half_bit (b t k : Nat) : (b / 2 ^ t).testBit (k + 1) = (b / 2 ^ (t + 1)).testBit k := by
  rw [Nat.testBit_div_two_pow, Nat.testBit_div_two_pow]
  congr 1; omega
/-- The places on the way: those ahead of j are shifted. -/
def half (F : Nat → Bool) (j : Nat) : Nat → Bool := fun k => if k < j then F (k + 1) else F k
theorem half_step (F : Nat → Bool) (j : Nat) : ∀ k, k < 32 → put (half F j) j (F (j + 1)) k = half F (j + 1) k := by
  intro k _
  unfold put half
  by_cases h : k = j
  · subst h; simp
  · rw [if_neg h]
    by_cases h2 : k < j
    · rw [if_pos h2, if_pos (by omega)]
    · rw [if_neg h2, if_neg (by omega)]
theorem half_end {b : Nat} (hb : b < 4294967296) (t : Nat) : ∀ k, k < 32 → put (half (b / 2 ^ t).testBit 31) 31 false k = (b / 2 ^ (t + 1)).testBit k := by
  intro k hk
  unfold put half
  by_cases h : k = 31
  · subst h
    rw [if_pos rfl, Nat.testBit_div_two_pow]
    exact (Nat.testBit_lt_two_pow (Nat.lt_of_lt_of_le hb (Nat.pow_le_pow_right (n := 2) (by omega) (show 32 ≤ 31 + (t + 1) by omega)))).symm
  · rw [if_neg h, if_pos (by omega)]
    exact half_bit b t k

set_option maxRecDepth 100000 in
set_option maxHeartbeats 4000000 in
/-- The next one. -/
theorem refnote_next (x s : Int) (b : Nat) (hb : b < 4294967296) (hx : 0 ≤ x ∧ x < 65536) (hs : 0 ≤ s ∧ s < 65536) (hd : dist x s = 0) (hn : hasN x b s = false) (r : Nat) (hr : r ≤ 32) (hlow : ∀ j, j < r → b.testBit j = true) (hend : b.testBit r = false) (w : World) :
    Calls Tryd.prog 17 #[.agg (came x b.testBit), .int .u16 s] w fun e w' => e = .returned (.tuple #[.agg (came (plus x (r + 1)) (b / 2 ^ (r + 1)).testBit), .bool true]) ∧ Below w.heap.size w w' := by
  have h1 := dist_lo x s
  have h2 := dist_hi x s
  have hR := fun w => Lib.hid (refto_any x s hx.1 hx.2 hs.1 hs.2 w)
  have hH := fun w => Lib.hid (refhas_any x s b hx hs w)
  have hz := zero_acks
  obtain ⟨W, hW⟩ : ∃ W, W = (w.alloc (.cells (came x b.testBit) 44)).alloc (.cells (came 0 fun _ => false) 44) := ⟨_, rfl⟩
  have HB : Aside0 (Below w.heap.size w W) := ⟨by rw [hW]; exact below_alloc (below_alloc (Below.refl _ _) _) _⟩
  have HG : Aside0 (Fn W w.heap.size x b.testBit) := ⟨by rw [hW]; exact blk_alloc (blk_new _ _) _⟩
  have HR : Aside0 (Fn W (w.heap.size + 1) 0 (fun _ => false)) := ⟨by rw [hW]; unfold Fn; simpa using blk_new (w.alloc (.cells (came x b.testBit) 44)) _⟩
  have HI := fun y f => Aside0.mk (came_info y f)
  have HO := fun y f => Aside0.mk (came_one y f)
  have HS := came_size x b.testBit
  have hc0 : ∀ h, (came x b.testBit)[0]'h = .int .u16 x := fun _ => rfl
  have a0 := HG.out.c0
  have hx0 : plus x (0 : Nat) = x := by unfold plus; omega
  clear hs
  generalize dist x s = d at *
  subst hd
  go_enter Tryd.func17, Tryd.ntmps17
  go_wp2_with fail
  rw [← hW]
  refine (hR _).out.mono ?_
  rintro e w1 ⟨rfl, nd, rfl⟩
  clear hW hz
  go_wp2_with (first | (refine wpList_load_row_g rfl 44 (.tmp 2) rfl w.heap.size rfl 44 _ (0, 0) _ (blk_drewN HG.out nd) Tryd.underlying44 rfl (HI _ _).out ?_))
  refine (hH _).out.mono ?_
  rintro e w2 ⟨rfl, hb2⟩
  rw [hn]
  have HG2 := Aside0.mk (blk_below (blk_drewN HG.out nd) hb2)
  have HR2 := Aside0.mk (blk_below (blk_drewN HR.out nd) hb2)
  have HB2 := Aside0.mk (below_step (pw_below_drewN HB.out nd) hb2)
  have HL := Aside0.mk hlow
  have HE := Aside0.mk hend
  have HXX := Aside0.mk hx
  have HBB := Aside0.mk hb
  clear hb2 hlow hend hx hb hn h1 h2 HB HG HR hR hH HS hc0 a0
  go_wp2_with fail
  go_loopw [7] (fun v7 wr => ∃ (t : Nat), t ≤ r ∧ Aside0 (Fn wr w.heap.size (plus x t) (b / 2 ^ t).testBit ∧ Fn wr (w.heap.size + 1) 0 (fun _ => false) ∧ Below w.heap.size w wr)) (fun _ wr => (dist (intOf ((wr.cell? ⟨w.heap.size, 0, none⟩).getD undef)) (plus x 40)).toNat)
  case atStart => exact ⟨0, by omega, ⟨by rw [hx0]; simpa [Fn] using HG2.out, HR2.out, HB2.out⟩⟩
  case round =>
    obtain ⟨t, ht, K⟩ := hrel
    clear HG2 HR2 HB2
    have HM : Aside0 (wr.cell? ⟨w.heap.size, 0, none⟩ = some (.int .u16 (plus x t))) := ⟨K.out.1.c0⟩
    have f0 : wr.cell? ⟨w.heap.size, 1, none⟩ = some (.bool (b.testBit t)) := by
      have := K.out.1.at_ (i := 0) (by omega)
      rw [Nat.testBit_div_two_pow, Nat.zero_add] at this
      exact this
    obtain ⟨v, hv⟩ : ∃ v, b.testBit t = v := ⟨_, rfl⟩
    rw [hv] at f0
    have HV := Aside0.mk hv
    clear hv
    go_wp2_with fail
    go_loopw [8] (fun v8 wr => ∃ (j : Nat), j ≤ 31 ∧ v8 = .int .i64 j ∧ Aside0 (Fn wr w.heap.size (plus x t) (half (b / 2 ^ t).testBit j) ∧ Fn wr (w.heap.size + 1) 0 (fun _ => false) ∧ Below w.heap.size w wr)) (fun v8 _ => 31 - (intOf v8).toNat)
    case atStart => exact ⟨0, by omega, rfl, ⟨K.out.1, K.out.2.1, K.out.2.2⟩⟩
    case round =>
      clear K f0
      obtain ⟨j, hj, rfl, L⟩ := hrel
      by_cases hlt : j < 31
      · have g1 := L.out.1.at_ (i := j + 1) (by omega)
        have g0 := L.out.1.at_ (i := j) (by omega)
        have g2 := L.out.1.frozen (1 + j)
        rw [show half (b / 2 ^ t).testBit j (j + 1) = (b / 2 ^ t).testBit (j + 1) by unfold half; rw [if_neg (by omega)]] at g1
        go_wp2_with fail
        go_roundw
        case rel =>
          refine ⟨j + 1, by omega, by go_num, ⟨?_, blk_far L.out.2.1 (by simp) _, below_set L.out.2.2 (Nat.le_refl _)⟩⟩
          have := L.out.1.set (i := j) (by omega) ((b / 2 ^ t).testBit (j + 1))
          unfold Fn at this ⊢
          rw [came_congr (half_step _ _)] at this
          exact this
        case measure => simp [intOf]; omega
      · have hj31 : j = 31 := by omega
        have hdj := decide_eq_false hlt
        have L1 : Aside0 (Fn wr w.heap.size (plus x t) (half (b / 2 ^ t).testBit 31)) := ⟨by rw [← hj31]; exact L.out.1⟩
        have L2 := Aside0.mk L.out.2.1
        have L3 := Aside0.mk L.out.2.2
        clear L hj31 hj
        have c31 : wr.cell? ⟨w.heap.size, 32, none⟩ = some _ := L1.out.at_ (i := 31) (by omega)
        have z31 : wr.frozen? ⟨w.heap.size, 32, none⟩ = false := L1.out.frozen 32
        have z0 : wr.frozen? ⟨w.heap.size, 0, none⟩ = false := L1.out.frozen 0
        have c0 := L1.out.c0
        have M1 : Aside0 (Fn (wr.setCell ⟨w.heap.size, 32, none⟩ (.bool false)) w.heap.size (plus x t) (b / 2 ^ (t + 1)).testBit) := ⟨by
          have := L1.out.set (i := 31) (by omega) false
          unfold Fn at this ⊢
          rw [came_congr (half_end HBB.out t)] at this
          exact this⟩
        have M2 := Aside0.mk (M1.out.set0 (plus x (t + 1 : Nat)))
        obtain ⟨y, hy⟩ : ∃ y, plus x t = y := ⟨_, rfl⟩
        have y1 : wrap64 y = y := by rw [← hy]; unfold wrap64 plus; omega
        have y2 : wrap64 (y + 1) = y + 1 := by rw [← hy]; unfold wrap64 plus; omega
        have y3 : (y + 1).tmod 65536 = plus x (t + 1 : Nat) := by rw [← hy, Int.tmod_eq_emod_of_nonneg (by unfold plus; omega)]; unfold plus; omega
        have y4 : IntKind.u16.wrap (plus x (t + 1 : Nat)) = plus x (t + 1 : Nat) := by rw [IntKind.wrap_u16]; unfold plus; omega
        rw [hy] at c0
        have hdj' : decide ((j : Int) < 31) = false := decide_eq_false (by omega)
        have M3 := Aside0.mk (blk_far (blk_far L2.out (p := ⟨w.heap.size, 32, none⟩) (by simp) (.bool false)) (p := ⟨w.heap.size, 0, none⟩) (by simp) (.int .u16 (plus x (t + 1 : Nat))))
        have M4 := Aside0.mk (below_set (j := 0) (v := .int .u16 (plus x (t + 1 : Nat))) (below_set (j := 32) (v := .bool false) L3.out (Nat.le_refl _)) (Nat.le_refl _))
        cases v with
        | true =>
          have htr : t < r := by
            rcases Nat.lt_or_ge t r with h | h
            · exact h
            · have : t = r := by omega
              subst this
              have := HV.out
              rw [HE.out] at this
              cases this
          generalize hy' : plus x (t + 1 : Nat) = y' at *
          go_wp2_with fail
          go_roundw
          case rel => exact ⟨t + 1, by omega, ⟨by rw [hy']; exact M2.out, M3.out, M4.out⟩⟩
          case measure =>
            rw [M2.out.c0, HM.out]
            show (dist y' (plus x 40)).toNat < (dist (plus x t) (plus x 40)).toNat
            rw [← hy']; unfold dist plus; omega
        | false =>
          have htr : t = r := by
            rcases Nat.lt_or_ge t r with h | h
            · have := HL.out t h
              rw [HV.out] at this
              cases this
            · omega
          have HTR := Aside0.mk htr
          clear htr
          generalize hy' : plus x (t + 1 : Nat) = y' at *
          go_wp2_with (first | (refine wpList_load_row rfl 44 (.tmp 2) rfl w.heap.size rfl 44 _ (0, 0) _ M2.out Tryd.underlying44 rfl (HI _ _).out ?_) | (refine wpList_store_row rfl 44 (.tmp 4) (.tmp 58) rfl (w.heap.size + 1) _ rfl rfl 44 _ M3.out (HI _ _).out (by rw [came_size, came_size]) (HO _ _).out ?_))
          refine bodyPost_ret (results_ct rfl _ _ (w.heap.size + 1) _ _ (0, 0) _ rfl (setRow_heap _ _ _ _ _ _ M3.out) Tryd.underlying44 rfl (HI _ _).out) rfl ⟨?_, below_setRow M4.out (by omega) _⟩
          rw [← hy', ← HTR.out]; rfl
end Go.Proofs.YtbfcllpjenohlaaDoor
