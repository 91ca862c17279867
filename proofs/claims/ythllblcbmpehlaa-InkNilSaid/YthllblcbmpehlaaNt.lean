/- The reference's Take of a byte, a half, a word. -/
import Derived.Test.YthllblcbmpehlaaNs
import Derived.RegionTactic
import Derived.BigRegion
import Derived.Deep.RegionWith
namespace Go.Proofs.Ythllblcbmpehlaa
open Go.RowKit Go.Proofs.YthllblcbmpehlaaW.PrintWords Go.Proofs.YthllblcbmpehlaaW.PrintLast Go.Proofs.YthllblcbmpehlaaW.PrintMore
set_option linter.unusedVariables false
set_option linter.unusedSimpArgs false

/-- What Take tells. -/
def RTook (w w' : World) (B : Nat) (x : S30) (r : (Int × List Int) × List Int × Bool) (e : Ending) : Prop :=
  ∃ vb A' c', e = .returned (.tuple #[.agg #[.int .u8 x.f0, .int .u64 r.1.1, vb, .int .u64 x.f3], .slice A' r.2.1.length c', .bool (!r.2.2)]) ∧ (Kd.int .u8).R 5 w' w.heap.size (fun _ => True) vb r.1.2 ∧ (Kd.int .u8).C w' A' r.2.1.length r.2.1 ∧ r.2.1.length ≤ c' ∧ (∀ ad, A' = some ad → ad.block < B) ∧ Below w.heap.size w w'
theorem eFix1 (l : List Int) (bad : Bool) : eFix 1 l bad = eByte l bad := by
  unfold eFix eByte
  split
  · rfl
  · cases l with
    | nil => rfl
    | cons b l => simp [leN]
theorem C_low {w w' : World} {A : Option Addr} {n B : Nat} {l : List Int} (h : (Kd.int .u8).C w A n l) (hA : ∀ ad, A = some ad → ad.block < B) (hb : Below B w w') : (Kd.int .u8).C w' A n l := eye_block w w' h (fun ad e => hb.block _ (hA ad e))

set_option maxRecDepth 100000 in
set_option maxHeartbeats 8000000 in
theorem rtake_fix (B : Nat) (l : List Int) (x : S30) (A : Option Addr) (n c : Nat) (Af : Option Addr) (cf : Nat) (w : World) (hx : Fd x) (hr : (Kd.int .u8).C w A n l) (hA : ∀ ad, A = some ad → ad.block < B) (hB : B ≤ w.heap.size) (hc : n ≤ c) (hb : Bytes l) (hl : l.length ≤ 100000) (hm : Int.tmod x.f0 5 = 4 → x.f3 ≤ 1000) (hk : Int.tmod x.f0 5 < 3) :
    Calls Try.prog 25 #[.slice A n c, .agg #[.int .u8 x.f0, .int .u64 x.f1, .slice Af x.f2.length cf, .int .u64 x.f3]] w fun e w' => RTook w w' B x (eTake x l false) e := by
  obtain ⟨f0, f1, f2, f3⟩ := x
  obtain ⟨⟨h0, h0'⟩, ⟨h1, h1'⟩, h2, h3, h3'⟩ := hx
  simp only at h0 h0' h1 h1' h2 h3 h3' hm hk
  obtain ⟨n3, rfl⟩ := Int.eq_ofNat_of_zero_le h3
  obtain rfl := hr.1
  unfold eTake
  simp only [Int.toNat_natCast]
  obtain ⟨m, hm0, hm5⟩ : ∃ m : Nat, Int.tmod f0 5 = (m : Int) ∧ m < 5 := ⟨(f0 % 5).toNat, by rw [Int.tmod_eq_emod_of_nonneg h0]; omega, by omega⟩
  generalize f2.length = fl at *
  obtain ⟨W, hW⟩ : ∃ W, (((w.alloc (.cells #[.int .u8 f0, .int .u64 f1, .slice Af fl cf, .int .u64 (n3 : Int)] 30)).alloc (.cells #[.int .u8 0, .int .u64 0, .slice none 0 0, .int .u64 0] 30)).alloc (.cells #[.int .u8 f0, .int .u64 0, .slice none 0 0, .int .u64 (n3 : Int)] 30)).alloc (.cells #[.int .i64 1, .int .i64 2, .int .i64 4, .int .i64 0, .int .i64 0] 3) = W := ⟨_, rfl⟩
  have hal : Below w.heap.size w W := by rw [← hW]; exact below_alloc (below_alloc (below_alloc (below_alloc (Below.refl _ _) _) _) _) _
  have q0 : W.heap[w.heap.size]? = some (.cells #[.int .u8 f0, .int .u64 f1, .slice Af fl cf, .int .u64 (n3 : Int)] 30 (0, 0)) := by rw [← hW]; exact blk_alloc (blk_alloc (blk_alloc (blk_new _ _) _) _) _
  have q1 : W.heap[w.heap.size + 1]? = some (.cells #[.int .u8 0, .int .u64 0, .slice none 0 0, .int .u64 0] 30 (0, 0)) := by rw [← hW]; simpa using blk_alloc (blk_alloc (blk_new (w.alloc (.cells #[.int .u8 f0, .int .u64 f1, .slice Af fl cf, .int .u64 (n3 : Int)] 30)) (.cells #[.int .u8 0, .int .u64 0, .slice none 0 0, .int .u64 0] 30)) (.cells #[.int .u8 f0, .int .u64 0, .slice none 0 0, .int .u64 (n3 : Int)] 30)) (.cells #[.int .i64 1, .int .i64 2, .int .i64 4, .int .i64 0, .int .i64 0] 3)
  have q2 : W.heap[w.heap.size + 1 + 1]? = some (.cells #[.int .u8 f0, .int .u64 0, .slice none 0 0, .int .u64 (n3 : Int)] 30 (0, 0)) := by rw [← hW]; simpa using blk_alloc (blk_new ((w.alloc (.cells #[.int .u8 f0, .int .u64 f1, .slice Af fl cf, .int .u64 (n3 : Int)] 30)).alloc (.cells #[.int .u8 0, .int .u64 0, .slice none 0 0, .int .u64 0] 30)) (.cells #[.int .u8 f0, .int .u64 0, .slice none 0 0, .int .u64 (n3 : Int)] 30)) (.cells #[.int .i64 1, .int .i64 2, .int .i64 4, .int .i64 0, .int .i64 0] 3)
  have HRW := Aside0.mk (Kd.C_below hr hal)
  have HA := Aside0.mk hA
  have HB := Aside0.mk hB
  have HC := Aside0.mk hc
  have HBY := Aside0.mk hb
  have HLN := Aside0.mk hl
  have HW := Aside0.mk hW
  have Q0 := Aside0.mk q0
  have Q1 := Aside0.mk q1
  have Q2 := Aside0.mk q2
  have HAL := Aside0.mk hal
  have HM4 := Aside0.mk hm
  have H3 := Aside0.mk h3'
  obtain ⟨ln, hln⟩ : ∃ ln, l.length = ln := ⟨_, rfl⟩
  have HLL := Aside0.mk hln
  rw [hln] at HRW HC HLN ⊢
  have hlnb : ln ≤ 100000 := HLN.out
  have hs2 : w.heap.size + 1 + 1 < W.heap.size := blk_lt q2
  have HS2 := Aside0.mk hs2
  clear hr hA hB hc hb hl hW q0 q1 q2 hal hm h3 h3' h0 h0' h1 h1' h2 hln hs2
  have hcs : m = 0 ∨ m = 1 ∨ m = 2 := by omega
  clear hm5 hk
  rcases hcs with rfl | rfl | rfl
  · have hm' : Int.tmod f0 5 = 0 := hm0
    clear hm0
    rw [if_pos hm']
    rw [← eFix1]
    unfold eFix
    by_cases hlt : l.length < 1
    · rw [if_pos (.inr hlt)]
      simp only
      rw [HLL.out] at hlt
      have d1 : decide ((ln : Int) < 1) = true := decide_eq_true (by omega)
      have d1' : decide (ln < 1) = true := decide_eq_true hlt
      clear hlt
      go_enter Try.func25, Try.ntmps25
      have c00 := blk_cell Q0.out 0
      go_wp2_with fail
      have PF : ((((w.alloc (.cells #[.int .u8 f0, .int .u64 f1, .slice Af fl cf, .int .u64 (n3 : Int)] 30)).alloc (.cells #[.int .u8 f0, .int .u64 0, .slice none 0 0, .int .u64 (n3 : Int)] 30)).alloc (.cells #[.int .u8 f0, .int .u64 0, .slice none 0 0, .int .u64 (n3 : Int)] 30)).alloc (.cells #[.int .i64 1, .int .i64 2, .int .i64 4, .int .i64 0, .int .i64 0] 3)).heap[w.heap.size + 1]? = some (.cells #[.int .u8 f0, .int .u64 0, .slice none 0 0, .int .u64 (n3 : Int)] 30 (0, 0)) := by simpa using blk_alloc (blk_alloc (blk_new (w.alloc (.cells #[.int .u8 f0, .int .u64 f1, .slice Af fl cf, .int .u64 (n3 : Int)] 30)) (.cells #[.int .u8 f0, .int .u64 0, .slice none 0 0, .int .u64 (n3 : Int)] 30)) (.cells #[.int .u8 f0, .int .u64 0, .slice none 0 0, .int .u64 (n3 : Int)] 30)) (.cells #[.int .i64 1, .int .i64 2, .int .i64 4, .int .i64 0, .int .i64 0] 3)
      refine bodyPost_ret (results_ctt rfl _ _ (w.heap.size + 1) _ #[.int .u8 f0, .int .u64 0, .slice none 0 0, .int .u64 (n3 : Int)] (0, 0) _ rfl PF Try.underlying30 rfl take_info) rfl ?_
      exact ⟨_, none, 0, rfl, Kd.R_nil _ _ _ _ _, Kd.C_nil _ _, Nat.le_refl _, (fun ad e => nomatch e), below_alloc (below_alloc (below_alloc (below_alloc (Below.refl _ _) _) _) _) _⟩
    · rw [if_neg (by rintro (h | h); cases h; exact hlt h)]
      simp only
      rw [HLL.out] at hlt
      have d1 : decide ((ln : Int) < 1) = false := decide_eq_false (by omega)
      have d1' : decide (ln < 1) = false := decide_eq_false hlt
      have hi := cut_hi (P := Try.prog) .u8 .i64 25 5 1 Try.underlying25 np_info A ln c 1 (by omega) HC.out
      obtain ⟨A', lo1, lo2, lo3⟩ := eye_lo (P := Try.prog) .u8 .i64 25 5 1 Try.underlying25 np_info A ln c 1 (by omega) HC.out
      have KV := Aside0.mk (value_any A 1 c (l.take 1) W (hi.2 W l HRW.out) (by have := HC.out; omega) (HBY.out.take _) (by omega))
      rw [leN_valN _ (HBY.out.take _)] at KV
      have HL2 := Aside0.mk (fun w' => lo2 w' l)
      have HL3 := Aside0.mk lo3
      have hi1 : ∀ W : World, (Instr.slice 25 (.slice A ln c) none (some (.int .i64 1)) none).run Try.prog W = .ok (.slice A 1 c) W := hi.1
      have lo1' : ∀ W : World, (Instr.slice 25 (.slice A ln c) (some (.int .i64 1)) none none).run Try.prog W = .ok (.slice A' (ln - 1) (c - 1)) W := lo1
      have HSZ := Aside0.mk (show ¬ ln < 1 from hlt)
      clear hi lo1 lo2 lo3 hlt
      generalize hrv : leN (l.take 1) = rv at *
      clear hrv
      go_enter Try.func25, Try.ntmps25
      have c00 := blk_cell Q0.out 0
      have c03 := blk_cell Q0.out 3
      go_wp2_with fail
      rw [HW.out]
      refine KV.out.mono ?_
      rintro e w1 ⟨rfl, nd, rfl⟩
      clear KV
      have p1 : (W.drewN nd).heap[w.heap.size + 1]? = some (.cells #[.int .u8 0, .int .u64 0, .slice none 0 0, .int .u64 0] 30 (0, 0)) := blk_drewN Q1.out nd
      have p2 : (W.drewN nd).heap[w.heap.size + 1 + 1]? = some (.cells #[.int .u8 f0, .int .u64 0, .slice none 0 0, .int .u64 (n3 : Int)] 30 (0, 0)) := blk_drewN Q2.out nd
      have f10 := blk_frozen p1 0
      have c10 := blk_cell p1 0
      have f20 := blk_frozen p2 0
      have c20 := blk_cell p2 0
      have f11 := blk_frozen p1 1
      have c11 := blk_cell p1 1
      have f21 := blk_frozen p2 1
      have c21 := blk_cell p2 1
      have f12 := blk_frozen p1 2
      have c12 := blk_cell p1 2
      have f22 := blk_frozen p2 2
      have c22 := blk_cell p2 2
      have f13 := blk_frozen p1 3
      have c13 := blk_cell p1 3
      have f23 := blk_frozen p2 3
      have c23 := blk_cell p2 3
      have P1 := Aside0.mk p1
      have P2 := Aside0.mk p2
      clear p1 p2
      go_wp2_with fail
      go_region_with fail
      go_wp2_with fail
      have PF : ((((((W.drewN nd).setCell ⟨w.heap.size + 1 + 1, 1, none⟩ (.int .u64 rv)).setCell ⟨w.heap.size + 1, 0, none⟩ (.int .u8 f0)).setCell ⟨w.heap.size + 1, 1, none⟩ (.int .u64 rv)).setCell ⟨w.heap.size + 1, 2, none⟩ (.slice none 0 0)).setCell ⟨w.heap.size + 1, 3, none⟩ (.int .u64 (n3 : Int))).heap[w.heap.size + 1]? = some (.cells #[.int .u8 f0, .int .u64 rv, .slice none 0 0, .int .u64 (n3 : Int)] 30 (0, 0)) := blk_set (blk_set (blk_set (blk_set ((Below.heap_setCell _ _ _ _ (by simp)).trans P1.out) 0 _) 1 _) 2 _) 3 _
      have hbw : Below w.heap.size w (((((((W.drewN nd).setCell ⟨w.heap.size + 1 + 1, 1, none⟩ (.int .u64 rv)).setCell ⟨w.heap.size + 1, 0, none⟩ (.int .u8 f0)).setCell ⟨w.heap.size + 1, 1, none⟩ (.int .u64 rv)).setCell ⟨w.heap.size + 1, 2, none⟩ (.slice none 0 0)).setCell ⟨w.heap.size + 1, 3, none⟩ (.int .u64 (n3 : Int))).drew) := ((((((pw_below_drewN HAL.out nd).setCell (by show w.heap.size ≤ w.heap.size + 1 + 1; omega) _).setCell (Nat.le_succ _) _).setCell (Nat.le_succ _) _).setCell (Nat.le_succ _) _).setCell (Nat.le_succ _) _).drew
      have hbW : Below w.heap.size W (((((((W.drewN nd).setCell ⟨w.heap.size + 1 + 1, 1, none⟩ (.int .u64 rv)).setCell ⟨w.heap.size + 1, 0, none⟩ (.int .u8 f0)).setCell ⟨w.heap.size + 1, 1, none⟩ (.int .u64 rv)).setCell ⟨w.heap.size + 1, 2, none⟩ (.slice none 0 0)).setCell ⟨w.heap.size + 1, 3, none⟩ (.int .u64 (n3 : Int))).drew) := ((((((pw_below_drewN (Below.refl w.heap.size W) nd).setCell (by show w.heap.size ≤ w.heap.size + 1 + 1; omega) _).setCell (Nat.le_succ _) _).setCell (Nat.le_succ _) _).setCell (Nat.le_succ _) _).setCell (Nat.le_succ _) _).drew
      have hdl : (l.drop 1).length = ln - 1 := by rw [List.length_drop, HLL.out]
      refine bodyPost_ret (results_ctt rfl _ _ (w.heap.size + 1) _ #[.int .u8 f0, .int .u64 rv, .slice none 0 0, .int .u64 (n3 : Int)] (0, 0) _ rfl (show (((((((W.drewN nd).setCell ⟨w.heap.size + 1 + 1, 1, none⟩ (.int .u64 rv)).setCell ⟨w.heap.size + 1, 0, none⟩ (.int .u8 f0)).setCell ⟨w.heap.size + 1, 1, none⟩ (.int .u64 rv)).setCell ⟨w.heap.size + 1, 2, none⟩ (.slice none 0 0)).setCell ⟨w.heap.size + 1, 3, none⟩ (.int .u64 (n3 : Int))).drew).heap[w.heap.size + 1]? = _ from PF) Try.underlying30 rfl take_info) rfl ?_
      refine ⟨_, A', c - 1, by rw [hdl]; rfl, Kd.R_nil _ _ _ _ _, by rw [hdl]; exact C_low (HL2.out W HRW.out) (fun ad e => by obtain ⟨ad0, e0, hb0⟩ := HL3.out ad e; rw [hb0]; exact HA.out ad0 e0) (hbW.mono HB.out), by rw [hdl]; have := HC.out; omega, fun ad e => by obtain ⟨ad0, e0, hb0⟩ := HL3.out ad e; rw [hb0]; exact HA.out ad0 e0, hbw⟩
  · have hm' : Int.tmod f0 5 = 1 := hm0
    clear hm0
    rw [if_neg (by rw [hm']; decide), if_pos hm']
    unfold eFix
    by_cases hlt : l.length < 2
    · rw [if_pos (.inr hlt)]
      simp only
      rw [HLL.out] at hlt
      have d1 : decide ((ln : Int) < 2) = true := decide_eq_true (by omega)
      have d1' : decide (ln < 2) = true := decide_eq_true hlt
      clear hlt
      go_enter Try.func25, Try.ntmps25
      have c00 := blk_cell Q0.out 0
      go_wp2_with fail
      have PF : ((((w.alloc (.cells #[.int .u8 f0, .int .u64 f1, .slice Af fl cf, .int .u64 (n3 : Int)] 30)).alloc (.cells #[.int .u8 f0, .int .u64 0, .slice none 0 0, .int .u64 (n3 : Int)] 30)).alloc (.cells #[.int .u8 f0, .int .u64 0, .slice none 0 0, .int .u64 (n3 : Int)] 30)).alloc (.cells #[.int .i64 1, .int .i64 2, .int .i64 4, .int .i64 0, .int .i64 0] 3)).heap[w.heap.size + 1]? = some (.cells #[.int .u8 f0, .int .u64 0, .slice none 0 0, .int .u64 (n3 : Int)] 30 (0, 0)) := by simpa using blk_alloc (blk_alloc (blk_new (w.alloc (.cells #[.int .u8 f0, .int .u64 f1, .slice Af fl cf, .int .u64 (n3 : Int)] 30)) (.cells #[.int .u8 f0, .int .u64 0, .slice none 0 0, .int .u64 (n3 : Int)] 30)) (.cells #[.int .u8 f0, .int .u64 0, .slice none 0 0, .int .u64 (n3 : Int)] 30)) (.cells #[.int .i64 1, .int .i64 2, .int .i64 4, .int .i64 0, .int .i64 0] 3)
      refine bodyPost_ret (results_ctt rfl _ _ (w.heap.size + 1) _ #[.int .u8 f0, .int .u64 0, .slice none 0 0, .int .u64 (n3 : Int)] (0, 0) _ rfl PF Try.underlying30 rfl take_info) rfl ?_
      exact ⟨_, none, 0, rfl, Kd.R_nil _ _ _ _ _, Kd.C_nil _ _, Nat.le_refl _, (fun ad e => nomatch e), below_alloc (below_alloc (below_alloc (below_alloc (Below.refl _ _) _) _) _) _⟩
    · rw [if_neg (by rintro (h | h); cases h; exact hlt h)]
      simp only
      rw [HLL.out] at hlt
      have d1 : decide ((ln : Int) < 2) = false := decide_eq_false (by omega)
      have d1' : decide (ln < 2) = false := decide_eq_false hlt
      have hi := cut_hi (P := Try.prog) .u8 .i64 25 5 1 Try.underlying25 np_info A ln c 2 (by omega) HC.out
      obtain ⟨A', lo1, lo2, lo3⟩ := eye_lo (P := Try.prog) .u8 .i64 25 5 1 Try.underlying25 np_info A ln c 2 (by omega) HC.out
      have KV := Aside0.mk (value_any A 2 c (l.take 2) W (hi.2 W l HRW.out) (by have := HC.out; omega) (HBY.out.take _) (by omega))
      rw [leN_valN _ (HBY.out.take _)] at KV
      have HL2 := Aside0.mk (fun w' => lo2 w' l)
      have HL3 := Aside0.mk lo3
      have hi1 : ∀ W : World, (Instr.slice 25 (.slice A ln c) none (some (.int .i64 2)) none).run Try.prog W = .ok (.slice A 2 c) W := hi.1
      have lo1' : ∀ W : World, (Instr.slice 25 (.slice A ln c) (some (.int .i64 2)) none none).run Try.prog W = .ok (.slice A' (ln - 2) (c - 2)) W := lo1
      have HSZ := Aside0.mk (show ¬ ln < 2 from hlt)
      clear hi lo1 lo2 lo3 hlt
      generalize hrv : leN (l.take 2) = rv at *
      clear hrv
      go_enter Try.func25, Try.ntmps25
      have c00 := blk_cell Q0.out 0
      have c03 := blk_cell Q0.out 3
      go_wp2_with fail
      rw [HW.out]
      refine KV.out.mono ?_
      rintro e w1 ⟨rfl, nd, rfl⟩
      clear KV
      have p1 : (W.drewN nd).heap[w.heap.size + 1]? = some (.cells #[.int .u8 0, .int .u64 0, .slice none 0 0, .int .u64 0] 30 (0, 0)) := blk_drewN Q1.out nd
      have p2 : (W.drewN nd).heap[w.heap.size + 1 + 1]? = some (.cells #[.int .u8 f0, .int .u64 0, .slice none 0 0, .int .u64 (n3 : Int)] 30 (0, 0)) := blk_drewN Q2.out nd
      have f10 := blk_frozen p1 0
      have c10 := blk_cell p1 0
      have f20 := blk_frozen p2 0
      have c20 := blk_cell p2 0
      have f11 := blk_frozen p1 1
      have c11 := blk_cell p1 1
      have f21 := blk_frozen p2 1
      have c21 := blk_cell p2 1
      have f12 := blk_frozen p1 2
      have c12 := blk_cell p1 2
      have f22 := blk_frozen p2 2
      have c22 := blk_cell p2 2
      have f13 := blk_frozen p1 3
      have c13 := blk_cell p1 3
      have f23 := blk_frozen p2 3
      have c23 := blk_cell p2 3
      have P1 := Aside0.mk p1
      have P2 := Aside0.mk p2
      clear p1 p2
      go_wp2_with fail
      go_region_with fail
      go_wp2_with fail
      have PF : ((((((W.drewN nd).setCell ⟨w.heap.size + 1 + 1, 1, none⟩ (.int .u64 rv)).setCell ⟨w.heap.size + 1, 0, none⟩ (.int .u8 f0)).setCell ⟨w.heap.size + 1, 1, none⟩ (.int .u64 rv)).setCell ⟨w.heap.size + 1, 2, none⟩ (.slice none 0 0)).setCell ⟨w.heap.size + 1, 3, none⟩ (.int .u64 (n3 : Int))).heap[w.heap.size + 1]? = some (.cells #[.int .u8 f0, .int .u64 rv, .slice none 0 0, .int .u64 (n3 : Int)] 30 (0, 0)) := blk_set (blk_set (blk_set (blk_set ((Below.heap_setCell _ _ _ _ (by simp)).trans P1.out) 0 _) 1 _) 2 _) 3 _
      have hbw : Below w.heap.size w (((((((W.drewN nd).setCell ⟨w.heap.size + 1 + 1, 1, none⟩ (.int .u64 rv)).setCell ⟨w.heap.size + 1, 0, none⟩ (.int .u8 f0)).setCell ⟨w.heap.size + 1, 1, none⟩ (.int .u64 rv)).setCell ⟨w.heap.size + 1, 2, none⟩ (.slice none 0 0)).setCell ⟨w.heap.size + 1, 3, none⟩ (.int .u64 (n3 : Int))).drew) := ((((((pw_below_drewN HAL.out nd).setCell (by show w.heap.size ≤ w.heap.size + 1 + 1; omega) _).setCell (Nat.le_succ _) _).setCell (Nat.le_succ _) _).setCell (Nat.le_succ _) _).setCell (Nat.le_succ _) _).drew
      have hbW : Below w.heap.size W (((((((W.drewN nd).setCell ⟨w.heap.size + 1 + 1, 1, none⟩ (.int .u64 rv)).setCell ⟨w.heap.size + 1, 0, none⟩ (.int .u8 f0)).setCell ⟨w.heap.size + 1, 1, none⟩ (.int .u64 rv)).setCell ⟨w.heap.size + 1, 2, none⟩ (.slice none 0 0)).setCell ⟨w.heap.size + 1, 3, none⟩ (.int .u64 (n3 : Int))).drew) := ((((((pw_below_drewN (Below.refl w.heap.size W) nd).setCell (by show w.heap.size ≤ w.heap.size + 1 + 1; omega) _).setCell (Nat.le_succ _) _).setCell (Nat.le_succ _) _).setCell (Nat.le_succ _) _).setCell (Nat.le_succ _) _).drew
      have hdl : (l.drop 2).length = ln - 2 := by rw [List.length_drop, HLL.out]
      refine bodyPost_ret (results_ctt rfl _ _ (w.heap.size + 1) _ #[.int .u8 f0, .int .u64 rv, .slice none 0 0, .int .u64 (n3 : Int)] (0, 0) _ rfl (show (((((((W.drewN nd).setCell ⟨w.heap.size + 1 + 1, 1, none⟩ (.int .u64 rv)).setCell ⟨w.heap.size + 1, 0, none⟩ (.int .u8 f0)).setCell ⟨w.heap.size + 1, 1, none⟩ (.int .u64 rv)).setCell ⟨w.heap.size + 1, 2, none⟩ (.slice none 0 0)).setCell ⟨w.heap.size + 1, 3, none⟩ (.int .u64 (n3 : Int))).drew).heap[w.heap.size + 1]? = _ from PF) Try.underlying30 rfl take_info) rfl ?_
      refine ⟨_, A', c - 2, by rw [hdl]; rfl, Kd.R_nil _ _ _ _ _, by rw [hdl]; exact C_low (HL2.out W HRW.out) (fun ad e => by obtain ⟨ad0, e0, hb0⟩ := HL3.out ad e; rw [hb0]; exact HA.out ad0 e0) (hbW.mono HB.out), by rw [hdl]; have := HC.out; omega, fun ad e => by obtain ⟨ad0, e0, hb0⟩ := HL3.out ad e; rw [hb0]; exact HA.out ad0 e0, hbw⟩
  · have hm' : Int.tmod f0 5 = 2 := hm0
    clear hm0
    rw [if_neg (by rw [hm']; decide), if_neg (by rw [hm']; decide), if_pos hm']
    unfold eFix
    by_cases hlt : l.length < 4
    · rw [if_pos (.inr hlt)]
      simp only
      rw [HLL.out] at hlt
      have d1 : decide ((ln : Int) < 4) = true := decide_eq_true (by omega)
      have d1' : decide (ln < 4) = true := decide_eq_true hlt
      clear hlt
      go_enter Try.func25, Try.ntmps25
      have c00 := blk_cell Q0.out 0
      go_wp2_with fail
      have PF : ((((w.alloc (.cells #[.int .u8 f0, .int .u64 f1, .slice Af fl cf, .int .u64 (n3 : Int)] 30)).alloc (.cells #[.int .u8 f0, .int .u64 0, .slice none 0 0, .int .u64 (n3 : Int)] 30)).alloc (.cells #[.int .u8 f0, .int .u64 0, .slice none 0 0, .int .u64 (n3 : Int)] 30)).alloc (.cells #[.int .i64 1, .int .i64 2, .int .i64 4, .int .i64 0, .int .i64 0] 3)).heap[w.heap.size + 1]? = some (.cells #[.int .u8 f0, .int .u64 0, .slice none 0 0, .int .u64 (n3 : Int)] 30 (0, 0)) := by simpa using blk_alloc (blk_alloc (blk_new (w.alloc (.cells #[.int .u8 f0, .int .u64 f1, .slice Af fl cf, .int .u64 (n3 : Int)] 30)) (.cells #[.int .u8 f0, .int .u64 0, .slice none 0 0, .int .u64 (n3 : Int)] 30)) (.cells #[.int .u8 f0, .int .u64 0, .slice none 0 0, .int .u64 (n3 : Int)] 30)) (.cells #[.int .i64 1, .int .i64 2, .int .i64 4, .int .i64 0, .int .i64 0] 3)
      refine bodyPost_ret (results_ctt rfl _ _ (w.heap.size + 1) _ #[.int .u8 f0, .int .u64 0, .slice none 0 0, .int .u64 (n3 : Int)] (0, 0) _ rfl PF Try.underlying30 rfl take_info) rfl ?_
      exact ⟨_, none, 0, rfl, Kd.R_nil _ _ _ _ _, Kd.C_nil _ _, Nat.le_refl _, (fun ad e => nomatch e), below_alloc (below_alloc (below_alloc (below_alloc (Below.refl _ _) _) _) _) _⟩
    · rw [if_neg (by rintro (h | h); cases h; exact hlt h)]
      simp only
      rw [HLL.out] at hlt
      have d1 : decide ((ln : Int) < 4) = false := decide_eq_false (by omega)
      have d1' : decide (ln < 4) = false := decide_eq_false hlt
      have hi := cut_hi (P := Try.prog) .u8 .i64 25 5 1 Try.underlying25 np_info A ln c 4 (by omega) HC.out
      obtain ⟨A', lo1, lo2, lo3⟩ := eye_lo (P := Try.prog) .u8 .i64 25 5 1 Try.underlying25 np_info A ln c 4 (by omega) HC.out
      have KV := Aside0.mk (value_any A 4 c (l.take 4) W (hi.2 W l HRW.out) (by have := HC.out; omega) (HBY.out.take _) (by omega))
      rw [leN_valN _ (HBY.out.take _)] at KV
      have HL2 := Aside0.mk (fun w' => lo2 w' l)
      have HL3 := Aside0.mk lo3
      have hi1 : ∀ W : World, (Instr.slice 25 (.slice A ln c) none (some (.int .i64 4)) none).run Try.prog W = .ok (.slice A 4 c) W := hi.1
      have lo1' : ∀ W : World, (Instr.slice 25 (.slice A ln c) (some (.int .i64 4)) none none).run Try.prog W = .ok (.slice A' (ln - 4) (c - 4)) W := lo1
      have HSZ := Aside0.mk (show ¬ ln < 4 from hlt)
      clear hi lo1 lo2 lo3 hlt
      generalize hrv : leN (l.take 4) = rv at *
      clear hrv
      go_enter Try.func25, Try.ntmps25
      have c00 := blk_cell Q0.out 0
      have c03 := blk_cell Q0.out 3
      go_wp2_with fail
      rw [HW.out]
      refine KV.out.mono ?_
      rintro e w1 ⟨rfl, nd, rfl⟩
      clear KV
      have p1 : (W.drewN nd).heap[w.heap.size + 1]? = some (.cells #[.int .u8 0, .int .u64 0, .slice none 0 0, .int .u64 0] 30 (0, 0)) := blk_drewN Q1.out nd
      have p2 : (W.drewN nd).heap[w.heap.size + 1 + 1]? = some (.cells #[.int .u8 f0, .int .u64 0, .slice none 0 0, .int .u64 (n3 : Int)] 30 (0, 0)) := blk_drewN Q2.out nd
      have f10 := blk_frozen p1 0
      have c10 := blk_cell p1 0
      have f20 := blk_frozen p2 0
      have c20 := blk_cell p2 0
      have f11 := blk_frozen p1 1
      have c11 := blk_cell p1 1
      have f21 := blk_frozen p2 1
      have c21 := blk_cell p2 1
      have f12 := blk_frozen p1 2
      have c12 := blk_cell p1 2
      have f22 := blk_frozen p2 2
      have c22 := blk_cell p2 2
      have f13 := blk_frozen p1 3
      have c13 := blk_cell p1 3
      have f23 := blk_frozen p2 3
      have c23 := blk_cell p2 3
      have P1 := Aside0.mk p1
      have P2 := Aside0.mk p2
      clear p1 p2
      go_wp2_with fail
      go_region_with fail
      go_wp2_with fail
      have PF : ((((((W.drewN nd).setCell ⟨w.heap.size + 1 + 1, 1, none⟩ (.int .u64 rv)).setCell ⟨w.heap.size + 1, 0, none⟩ (.int .u8 f0)).setCell ⟨w.heap.size + 1, 1, none⟩ (.int .u64 rv)).setCell ⟨w.heap.size + 1, 2, none⟩ (.slice none 0 0)).setCell ⟨w.heap.size + 1, 3, none⟩ (.int .u64 (n3 : Int))).heap[w.heap.size + 1]? = some (.cells #[.int .u8 f0, .int .u64 rv, .slice none 0 0, .int .u64 (n3 : Int)] 30 (0, 0)) := blk_set (blk_set (blk_set (blk_set ((Below.heap_setCell _ _ _ _ (by simp)).trans P1.out) 0 _) 1 _) 2 _) 3 _
      have hbw : Below w.heap.size w (((((((W.drewN nd).setCell ⟨w.heap.size + 1 + 1, 1, none⟩ (.int .u64 rv)).setCell ⟨w.heap.size + 1, 0, none⟩ (.int .u8 f0)).setCell ⟨w.heap.size + 1, 1, none⟩ (.int .u64 rv)).setCell ⟨w.heap.size + 1, 2, none⟩ (.slice none 0 0)).setCell ⟨w.heap.size + 1, 3, none⟩ (.int .u64 (n3 : Int))).drew) := ((((((pw_below_drewN HAL.out nd).setCell (by show w.heap.size ≤ w.heap.size + 1 + 1; omega) _).setCell (Nat.le_succ _) _).setCell (Nat.le_succ _) _).setCell (Nat.le_succ _) _).setCell (Nat.le_succ _) _).drew
      have hbW : Below w.heap.size W (((((((W.drewN nd).setCell ⟨w.heap.size + 1 + 1, 1, none⟩ (.int .u64 rv)).setCell ⟨w.heap.size + 1, 0, none⟩ (.int .u8 f0)).setCell ⟨w.heap.size + 1, 1, none⟩ (.int .u64 rv)).setCell ⟨w.heap.size + 1, 2, none⟩ (.slice none 0 0)).setCell ⟨w.heap.size + 1, 3, none⟩ (.int .u64 (n3 : Int))).drew) := ((((((pw_below_drewN (Below.refl w.heap.size W) nd).setCell (by show w.heap.size ≤ w.heap.size + 1 + 1; omega) _).setCell (Nat.le_succ _) _).setCell (Nat.le_succ _) _).setCell (Nat.le_succ _) _).setCell (Nat.le_succ _) _).drew
      have hdl : (l.drop 4).length = ln - 4 := by rw [List.length_drop, HLL.out]
      refine bodyPost_ret (results_ctt rfl _ _ (w.heap.size + 1) _ #[.int .u8 f0, .int .u64 rv, .slice none 0 0, .int .u64 (n3 : Int)] (0, 0) _ rfl (show (((((((W.drewN nd).setCell ⟨w.heap.size + 1 + 1, 1, none⟩ (.int .u64 rv)).setCell ⟨w.heap.size + 1, 0, none⟩ (.int .u8 f0)).setCell ⟨w.heap.size + 1, 1, none⟩ (.int .u64 rv)).setCell ⟨w.heap.size + 1, 2, none⟩ (.slice none 0 0)).setCell ⟨w.heap.size + 1, 3, none⟩ (.int .u64 (n3 : Int))).drew).heap[w.heap.size + 1]? = _ from PF) Try.underlying30 rfl take_info) rfl ?_
      refine ⟨_, A', c - 4, by rw [hdl]; rfl, Kd.R_nil _ _ _ _ _, by rw [hdl]; exact C_low (HL2.out W HRW.out) (fun ad e => by obtain ⟨ad0, e0, hb0⟩ := HL3.out ad e; rw [hb0]; exact HA.out ad0 e0) (hbW.mono HB.out), by rw [hdl]; have := HC.out; omega, fun ad e => by obtain ⟨ad0, e0, hb0⟩ := HL3.out ad e; rw [hb0]; exact HA.out ad0 e0, hbw⟩
end Go.Proofs.Ythllblcbmpehlaa
