/- The reference's Take of a number, a blob. -/
import Derived.Test.YthllblcbmpehlaaNt
import Derived.RegionTactic
import Derived.BigRegion
import Derived.Deep.RegionWith
namespace Go.Proofs.Ythllblcbmpehlaa
open Go.RowKit Go.Proofs.YthllblcbmpehlaaW.PrintWords Go.Proofs.YthllblcbmpehlaaW.PrintLast Go.Proofs.YthllblcbmpehlaaW.PrintMore
set_option linter.unusedVariables false
set_option linter.unusedSimpArgs false

theorem eBlob_none {l : List Int} (most : Nat) (h : numR 0 0 l = none) : eBlob most l false = ([], [], true) := by simp [eBlob, eNum, numB, h, eRes]
theorem eBlob_more {l l' : List Int} {n : Nat} (most : Nat) (h : numR 0 0 l = some (n, l')) (hm : most < n) : eBlob most l false = ([], [], true) := by simp [eBlob, eNum, numB, h, eRes, hm]
theorem eBlob_long {l l' : List Int} {n : Nat} (most : Nat) (h : numR 0 0 l = some (n, l')) (hm : ¬ most < n) (hl : l'.length < n) : eBlob most l false = ([], [], true) := by simp [eBlob, eNum, numB, h, eRes, hm, hl]
theorem eBlob_ok {l l' : List Int} {n : Nat} (most : Nat) (h : numR 0 0 l = some (n, l')) (hm : ¬ most < n) (hl : ¬ l'.length < n) : eBlob most l false = (l'.take n, l'.drop n, false) := by simp [eBlob, eNum, numB, h, eRes, hm, hl]

set_option maxRecDepth 100000 in
set_option maxHeartbeats 8000000 in
theorem rtake_num (B : Nat) (l : List Int) (x : S30) (A : Option Addr) (n c : Nat) (Af : Option Addr) (cf : Nat) (w : World) (hx : Fd x) (hr : (Kd.int .u8).C w A n l) (hA : ∀ ad, A = some ad → ad.block < B) (hB : B ≤ w.heap.size) (hc : n ≤ c) (hb : Bytes l) (hl : l.length ≤ 100000) (hm : Int.tmod x.f0 5 = 4 → x.f3 ≤ 1000) (hk : 3 ≤ Int.tmod x.f0 5) :
    Calls Try.prog 25 #[.slice A n c, .agg #[.int .u8 x.f0, .int .u64 x.f1, .slice Af x.f2.length cf, .int .u64 x.f3]] w fun e w' => RTook w w' B x (eTake x l false) e := by
  obtain ⟨f0, f1, f2, f3⟩ := x
  obtain ⟨⟨h0, h0'⟩, ⟨h1, h1'⟩, h2, h3, h3'⟩ := hx
  simp only at h0 h0' h1 h1' h2 h3 h3' hm hk
  obtain ⟨n3, rfl⟩ := Int.eq_ofNat_of_zero_le h3
  obtain rfl := hr.1
  unfold eTake
  simp only [Int.toNat_natCast]
  obtain ⟨m, hm0, hm5⟩ : ∃ m : Nat, Int.tmod f0 5 = (m : Int) ∧ m < 5 := ⟨(f0 % 5).toNat, by rw [Int.tmod_eq_emod_of_nonneg h0]; omega, by omega⟩
  generalize f2.length = fl at *
  obtain ⟨W, hW⟩ : ∃ W, (((w.alloc (.cells #[.int .u8 f0, .int .u64 f1, .slice Af fl cf, .int .u64 (n3 : Int)] 30)).alloc (.cells #[.int .u8 0, .int .u64 0, .slice none 0 0, .int .u64 0] 30)).alloc (.cells #[.int .u8 f0, .int .u64 0, .slice none 0 0, .int .u64 (n3 : Int)] 30)).alloc (.cells #[.int .i64 1, .int .i64 2, .int .i64 4, .int .i64 0, .int .i64 0] 3) = W := ⟨_, rfl⟩
  have hal : Below w.heap.size w W := by rw [← hW]; exact below_alloc (below_alloc (below_alloc (below_alloc (Below.refl _ _) _) _) _) _
  have q0 : W.heap[w.heap.size]? = some (.cells #[.int .u8 f0, .int .u64 f1, .slice Af fl cf, .int .u64 (n3 : Int)] 30 (0, 0)) := by rw [← hW]; exact blk_alloc (blk_alloc (blk_alloc (blk_new _ _) _) _) _
  have q1 : W.heap[w.heap.size + 1]? = some (.cells #[.int .u8 0, .int .u64 0, .slice none 0 0, .int .u64 0] 30 (0, 0)) := by rw [← hW]; simpa using blk_alloc (blk_alloc (blk_new (w.alloc (.cells #[.int .u8 f0, .int .u64 f1, .slice Af fl cf, .int .u64 (n3 : Int)] 30)) (.cells #[.int .u8 0, .int .u64 0, .slice none 0 0, .int .u64 0] 30)) (.cells #[.int .u8 f0, .int .u64 0, .slice none 0 0, .int .u64 (n3 : Int)] 30)) (.cells #[.int .i64 1, .int .i64 2, .int .i64 4, .int .i64 0, .int .i64 0] 3)
  have q2 : W.heap[w.heap.size + 1 + 1]? = some (.cells #[.int .u8 f0, .int .u64 0, .slice none 0 0, .int .u64 (n3 : Int)] 30 (0, 0)) := by rw [← hW]; simpa using blk_alloc (blk_new ((w.alloc (.cells #[.int .u8 f0, .int .u64 f1, .slice Af fl cf, .int .u64 (n3 : Int)] 30)).alloc (.cells #[.int .u8 0, .int .u64 0, .slice none 0 0, .int .u64 0] 30)) (.cells #[.int .u8 f0, .int .u64 0, .slice none 0 0, .int .u64 (n3 : Int)] 30)) (.cells #[.int .i64 1, .int .i64 2, .int .i64 4, .int .i64 0, .int .i64 0] 3)
  have HRW := Aside0.mk (Kd.C_below hr hal)
  have HA := Aside0.mk hA
  have HB := Aside0.mk hB
  have HC := Aside0.mk hc
  have HBY := Aside0.mk hb
  have HLN := Aside0.mk hl
  have HW := Aside0.mk hW
  have Q0 := Aside0.mk q0
  have Q1 := Aside0.mk q1
  have Q2 := Aside0.mk q2
  have HAL := Aside0.mk hal
  have HM4 := Aside0.mk hm
  have H3 := Aside0.mk h3'
  obtain ⟨ln, hln⟩ : ∃ ln, l.length = ln := ⟨_, rfl⟩
  have HLL := Aside0.mk hln
  rw [hln] at HRW HC HLN ⊢
  have hlnb : ln ≤ 100000 := HLN.out
  have hs2 : w.heap.size + 1 + 1 < W.heap.size := blk_lt q2
  have HS2 := Aside0.mk hs2
  clear hr hA hB hc hb hl hW q0 q1 q2 hal hm h3 h3' h0 h0' h1 h1' h2 hln hs2
  have hcs : m = 3 ∨ m = 4 := by omega
  clear hm5 hk
  rcases hcs with rfl | rfl
  · have hm' : Int.tmod f0 5 = 3 := hm0
    clear hm0
    rw [if_neg (by rw [hm']; decide), if_neg (by rw [hm']; decide), if_neg (by rw [hm']; decide), if_pos hm']
    have KN := Aside0.mk (number_any A ln c l W HRW.out HC.out HBY.out hlnb)
    have hlay := numR_lay l HBY.out 0 0
    unfold eNum numB
    rw [if_neg (by decide)]
    cases hnr : numR 0 0 l with
    | none =>
      rw [hnr] at KN
      simp only [tellN, eRes] at KN ⊢
      clear hlay hnr
      go_enter Try.func25, Try.ntmps25
      have c00 := blk_cell Q0.out 0
      go_wp2_with fail
      rw [HW.out]
      refine KN.out.mono ?_
      rintro e w1 ⟨rfl, nd, rfl⟩
      have c03 := blk_cell (blk_drewN Q0.out nd) 3
      have c00 := blk_cell (blk_drewN Q0.out nd) 0
      clear KN
      have p1 : (W.drewN nd).heap[w.heap.size + 1]? = some (.cells #[.int .u8 0, .int .u64 0, .slice none 0 0, .int .u64 0] 30 (0, 0)) := blk_drewN Q1.out nd
      have p2 : (W.drewN nd).heap[w.heap.size + 1 + 1]? = some (.cells #[.int .u8 f0, .int .u64 0, .slice none 0 0, .int .u64 (n3 : Int)] 30 (0, 0)) := blk_drewN Q2.out nd
      have f10 := blk_frozen p1 0
      have c10 := blk_cell p1 0
      have f20 := blk_frozen p2 0
      have c20 := blk_cell p2 0
      have f11 := blk_frozen p1 1
      have c11 := blk_cell p1 1
      have f21 := blk_frozen p2 1
      have c21 := blk_cell p2 1
      have f12 := blk_frozen p1 2
      have c12 := blk_cell p1 2
      have f22 := blk_frozen p2 2
      have c22 := blk_cell p2 2
      have f13 := blk_frozen p1 3
      have c13 := blk_cell p1 3
      have f23 := blk_frozen p2 3
      have c23 := blk_cell p2 3
      have P1 := Aside0.mk p1
      have P2 := Aside0.mk p2
      clear p1 p2
      go_wp2_with fail
      have PF : (((((W.drewN nd).setCell ⟨w.heap.size + 1, 0, none⟩ (.int .u8 f0)).setCell ⟨w.heap.size + 1, 1, none⟩ (.int .u64 0)).setCell ⟨w.heap.size + 1, 2, none⟩ (.slice none 0 0)).setCell ⟨w.heap.size + 1, 3, none⟩ (.int .u64 (n3 : Int))).heap[w.heap.size + 1]? = some (.cells #[.int .u8 f0, .int .u64 0, .slice none 0 0, .int .u64 (n3 : Int)] 30 (0, 0)) := blk_set (blk_set (blk_set (blk_set P1.out 0 _) 1 _) 2 _) 3 _
      have hbw : Below w.heap.size w (((((W.drewN nd).setCell ⟨w.heap.size + 1, 0, none⟩ (.int .u8 f0)).setCell ⟨w.heap.size + 1, 1, none⟩ (.int .u64 0)).setCell ⟨w.heap.size + 1, 2, none⟩ (.slice none 0 0)).setCell ⟨w.heap.size + 1, 3, none⟩ (.int .u64 (n3 : Int))) := (((((pw_below_drewN HAL.out nd).setCell (Nat.le_succ _) _).setCell (Nat.le_succ _) _).setCell (Nat.le_succ _) _).setCell (Nat.le_succ _) _)
      refine bodyPost_ret (results_ctt rfl _ _ (w.heap.size + 1) _ #[.int .u8 f0, .int .u64 0, .slice none 0 0, .int .u64 (n3 : Int)] (0, 0) _ rfl PF Try.underlying30 rfl take_info) rfl ?_
      exact ⟨_, none, 0, rfl, Kd.R_nil _ _ _ _ _, Kd.C_nil _ _, Nat.le_refl _, (fun ad e => nomatch e), hbw⟩
    | some pr =>
      obtain ⟨nn, l'⟩ := pr
      obtain ⟨mm, e1, e2, _⟩ := hlay nn l' hnr
      obtain rfl : nn = mm := by omega
      rw [hnr] at KN
      have hlen : ln = (numN nn).length + l'.length := by rw [← HLL.out, e2, List.length_append]
      have hpos : 0 < (numN nn).length := by
        by_cases h : nn < 128
        · rw [numN_lo h]; simp
        · rw [numN_hi h]; simp
      have hn64 := (numR_u64 0 l 0 0 nn l' hnr (by decide) (by decide)).1
      have hdrop : l.drop (numN nn).length = l' := by rw [e2, List.drop_left]
      simp only [tellN, eRes] at KN ⊢
      obtain ⟨kk, hkk⟩ : ∃ kk, (numN nn).length = kk := ⟨_, rfl⟩
      obtain ⟨ll, hll⟩ : ∃ ll, l'.length = ll := ⟨_, rfl⟩
      rw [hkk] at hpos hdrop hlen
      rw [hll] at KN hlen
      rw [show ln - ll = kk by omega] at KN
      have z1 : ((kk : Int) == 0) = false := by simp; omega
      have z1' : (kk == 0) = false := by simp; omega
      have HDR := Aside0.mk hdrop
      have HLE := Aside0.mk (⟨hlen, hpos, hn64⟩ : ln = kk + ll ∧ 0 < kk ∧ nn < 18446744073709551616)
      have HLP := Aside0.mk hll
      have HBL := Aside0.mk (show Bytes l' from fun x hx => HBY.out x (by rw [e2]; exact List.mem_append_right _ hx))
      clear hlay hnr e1 e2 hkk hdrop hlen hpos hn64 hll
      by_cases hmo : n3 < nn
      · rw [if_pos hmo]
        simp only
        have z2 : decide ((n3 : Int) < (nn : Int)) = true := decide_eq_true (by omega)
        have z2' : decide (n3 < nn) = true := decide_eq_true hmo
        clear hmo
        go_enter Try.func25, Try.ntmps25
        have c00 := blk_cell Q0.out 0
        go_wp2_with fail
        rw [HW.out]
        refine KN.out.mono ?_
        rintro e w1 ⟨rfl, nd, rfl⟩
        have c03 := blk_cell (blk_drewN Q0.out nd) 3
        have c00 := blk_cell (blk_drewN Q0.out nd) 0
        clear KN
        have p1 : (W.drewN nd).heap[w.heap.size + 1]? = some (.cells #[.int .u8 0, .int .u64 0, .slice none 0 0, .int .u64 0] 30 (0, 0)) := blk_drewN Q1.out nd
        have p2 : (W.drewN nd).heap[w.heap.size + 1 + 1]? = some (.cells #[.int .u8 f0, .int .u64 0, .slice none 0 0, .int .u64 (n3 : Int)] 30 (0, 0)) := blk_drewN Q2.out nd
        have f10 := blk_frozen p1 0
        have c10 := blk_cell p1 0
        have f20 := blk_frozen p2 0
        have c20 := blk_cell p2 0
        have f11 := blk_frozen p1 1
        have c11 := blk_cell p1 1
        have f21 := blk_frozen p2 1
        have c21 := blk_cell p2 1
        have f12 := blk_frozen p1 2
        have c12 := blk_cell p1 2
        have f22 := blk_frozen p2 2
        have c22 := blk_cell p2 2
        have f13 := blk_frozen p1 3
        have c13 := blk_cell p1 3
        have f23 := blk_frozen p2 3
        have c23 := blk_cell p2 3
        have P1 := Aside0.mk p1
        have P2 := Aside0.mk p2
        clear p1 p2
        go_wp2_with fail
        have PF : (((((W.drewN nd).setCell ⟨w.heap.size + 1, 0, none⟩ (.int .u8 f0)).setCell ⟨w.heap.size + 1, 1, none⟩ (.int .u64 0)).setCell ⟨w.heap.size + 1, 2, none⟩ (.slice none 0 0)).setCell ⟨w.heap.size + 1, 3, none⟩ (.int .u64 (n3 : Int))).heap[w.heap.size + 1]? = some (.cells #[.int .u8 f0, .int .u64 0, .slice none 0 0, .int .u64 (n3 : Int)] 30 (0, 0)) := blk_set (blk_set (blk_set (blk_set P1.out 0 _) 1 _) 2 _) 3 _
        have hbw : Below w.heap.size w (((((W.drewN nd).setCell ⟨w.heap.size + 1, 0, none⟩ (.int .u8 f0)).setCell ⟨w.heap.size + 1, 1, none⟩ (.int .u64 0)).setCell ⟨w.heap.size + 1, 2, none⟩ (.slice none 0 0)).setCell ⟨w.heap.size + 1, 3, none⟩ (.int .u64 (n3 : Int))) := (((((pw_below_drewN HAL.out nd).setCell (Nat.le_succ _) _).setCell (Nat.le_succ _) _).setCell (Nat.le_succ _) _).setCell (Nat.le_succ _) _)
        refine bodyPost_ret (results_ctt rfl _ _ (w.heap.size + 1) _ #[.int .u8 f0, .int .u64 0, .slice none 0 0, .int .u64 (n3 : Int)] (0, 0) _ rfl PF Try.underlying30 rfl take_info) rfl ?_
        exact ⟨_, none, 0, rfl, Kd.R_nil _ _ _ _ _, Kd.C_nil _ _, Nat.le_refl _, (fun ad e => nomatch e), hbw⟩
      · rw [if_neg hmo]
        have z2 : decide ((n3 : Int) < (nn : Int)) = false := decide_eq_false (by omega)
        have z2' : decide (n3 < nn) = false := decide_eq_false hmo
        clear hmo
        obtain ⟨A', lo1, lo2, lo3⟩ := eye_lo (P := Try.prog) .u8 .i64 25 5 1 Try.underlying25 np_info A ln c kk (by have := HLE.out; omega) HC.out
        have lo1' := lo1
        have HL2 := Aside0.mk (fun w' => lo2 w' l)
        have HL3 := Aside0.mk lo3
        clear lo1 lo2 lo3
        go_enter Try.func25, Try.ntmps25
        have c00 := blk_cell Q0.out 0
        go_wp2_with fail
        rw [HW.out]
        refine KN.out.mono ?_
        rintro e w1 ⟨rfl, nd, rfl⟩
        have c03 := blk_cell (blk_drewN Q0.out nd) 3
        have c00 := blk_cell (blk_drewN Q0.out nd) 0
        clear KN
        have p1 : (W.drewN nd).heap[w.heap.size + 1]? = some (.cells #[.int .u8 0, .int .u64 0, .slice none 0 0, .int .u64 0] 30 (0, 0)) := blk_drewN Q1.out nd
        have p2 : (W.drewN nd).heap[w.heap.size + 1 + 1]? = some (.cells #[.int .u8 f0, .int .u64 0, .slice none 0 0, .int .u64 (n3 : Int)] 30 (0, 0)) := blk_drewN Q2.out nd
        have f10 := blk_frozen p1 0
        have c10 := blk_cell p1 0
        have f20 := blk_frozen p2 0
        have c20 := blk_cell p2 0
        have f11 := blk_frozen p1 1
        have c11 := blk_cell p1 1
        have f21 := blk_frozen p2 1
        have c21 := blk_cell p2 1
        have f12 := blk_frozen p1 2
        have c12 := blk_cell p1 2
        have f22 := blk_frozen p2 2
        have c22 := blk_cell p2 2
        have f13 := blk_frozen p1 3
        have c13 := blk_cell p1 3
        have f23 := blk_frozen p2 3
        have c23 := blk_cell p2 3
        have P1 := Aside0.mk p1
        have P2 := Aside0.mk p2
        clear p1 p2
        go_wp2_with fail
        go_region_with fail
        go_wp2_with fail
        have PF : ((((((W.drewN nd).setCell ⟨w.heap.size + 1 + 1, 1, none⟩ (.int .u64 (nn : Int))).setCell ⟨w.heap.size + 1, 0, none⟩ (.int .u8 f0)).setCell ⟨w.heap.size + 1, 1, none⟩ (.int .u64 (nn : Int))).setCell ⟨w.heap.size + 1, 2, none⟩ (.slice none 0 0)).setCell ⟨w.heap.size + 1, 3, none⟩ (.int .u64 (n3 : Int))).heap[w.heap.size + 1]? = some (.cells #[.int .u8 f0, .int .u64 (nn : Int), .slice none 0 0, .int .u64 (n3 : Int)] 30 (0, 0)) := blk_set (blk_set (blk_set (blk_set ((Below.heap_setCell _ _ _ _ (by simp)).trans P1.out) 0 _) 1 _) 2 _) 3 _
        have hbw : Below w.heap.size w (((((((W.drewN nd).setCell ⟨w.heap.size + 1 + 1, 1, none⟩ (.int .u64 (nn : Int))).setCell ⟨w.heap.size + 1, 0, none⟩ (.int .u8 f0)).setCell ⟨w.heap.size + 1, 1, none⟩ (.int .u64 (nn : Int))).setCell ⟨w.heap.size + 1, 2, none⟩ (.slice none 0 0)).setCell ⟨w.heap.size + 1, 3, none⟩ (.int .u64 (n3 : Int))).drew) := ((((((pw_below_drewN HAL.out nd).setCell (by show w.heap.size ≤ w.heap.size + 1 + 1; omega) _).setCell (Nat.le_succ _) _).setCell (Nat.le_succ _) _).setCell (Nat.le_succ _) _).setCell (Nat.le_succ _) _).drew
        have hbW : Below w.heap.size W (((((((W.drewN nd).setCell ⟨w.heap.size + 1 + 1, 1, none⟩ (.int .u64 (nn : Int))).setCell ⟨w.heap.size + 1, 0, none⟩ (.int .u8 f0)).setCell ⟨w.heap.size + 1, 1, none⟩ (.int .u64 (nn : Int))).setCell ⟨w.heap.size + 1, 2, none⟩ (.slice none 0 0)).setCell ⟨w.heap.size + 1, 3, none⟩ (.int .u64 (n3 : Int))).drew) := ((((((pw_below_drewN (Below.refl w.heap.size W) nd).setCell (by show w.heap.size ≤ w.heap.size + 1 + 1; omega) _).setCell (Nat.le_succ _) _).setCell (Nat.le_succ _) _).setCell (Nat.le_succ _) _).setCell (Nat.le_succ _) _).drew
        have hdl : (l').length = ln - kk := by rw [HLP.out]; have := HLE.out; omega
        refine bodyPost_ret (results_ctt rfl _ _ (w.heap.size + 1) _ #[.int .u8 f0, .int .u64 (nn : Int), .slice none 0 0, .int .u64 (n3 : Int)] (0, 0) _ rfl (show (((((((W.drewN nd).setCell ⟨w.heap.size + 1 + 1, 1, none⟩ (.int .u64 (nn : Int))).setCell ⟨w.heap.size + 1, 0, none⟩ (.int .u8 f0)).setCell ⟨w.heap.size + 1, 1, none⟩ (.int .u64 (nn : Int))).setCell ⟨w.heap.size + 1, 2, none⟩ (.slice none 0 0)).setCell ⟨w.heap.size + 1, 3, none⟩ (.int .u64 (n3 : Int))).drew).heap[w.heap.size + 1]? = _ from PF) Try.underlying30 rfl take_info) rfl ?_
        refine ⟨_, A', c - kk, by rw [hdl]; rfl, Kd.R_nil _ _ _ _ _, by rw [hdl]; exact C_low (by have := HL2.out W HRW.out; rw [HDR.out] at this; exact this) (fun ad e => by obtain ⟨ad0, e0, hb0⟩ := HL3.out ad e; rw [hb0]; exact HA.out ad0 e0) (hbW.mono HB.out), by rw [hdl]; have := HC.out; omega, fun ad e => by obtain ⟨ad0, e0, hb0⟩ := HL3.out ad e; rw [hb0]; exact HA.out ad0 e0, hbw⟩
  · have hm' : Int.tmod f0 5 = 4 := hm0
    clear hm0
    rw [if_neg (by rw [hm']; decide), if_neg (by rw [hm']; decide), if_neg (by rw [hm']; decide), if_neg (by rw [hm']; decide)]
    have KN := Aside0.mk (number_any A ln c l W HRW.out HC.out HBY.out hlnb)
    have hlay := numR_lay l HBY.out 0 0
    have h1000 : n3 ≤ 1000 := by have := HM4.out hm'; omega
    cases hnr : numR 0 0 l with
    | none =>
      rw [hnr] at KN
      simp only [tellN] at KN
      rw [eBlob_none n3 hnr]
      simp only
      clear hlay hnr h1000
      go_enter Try.func25, Try.ntmps25
      have c00 := blk_cell Q0.out 0
      go_wp2_with fail
      rw [HW.out]
      refine KN.out.mono ?_
      rintro e w1 ⟨rfl, nd, rfl⟩
      have c03 := blk_cell (blk_drewN Q0.out nd) 3
      have c00 := blk_cell (blk_drewN Q0.out nd) 0
      clear KN
      have p1 : (W.drewN nd).heap[w.heap.size + 1]? = some (.cells #[.int .u8 0, .int .u64 0, .slice none 0 0, .int .u64 0] 30 (0, 0)) := blk_drewN Q1.out nd
      have p2 : (W.drewN nd).heap[w.heap.size + 1 + 1]? = some (.cells #[.int .u8 f0, .int .u64 0, .slice none 0 0, .int .u64 (n3 : Int)] 30 (0, 0)) := blk_drewN Q2.out nd
      have f10 := blk_frozen p1 0
      have c10 := blk_cell p1 0
      have f20 := blk_frozen p2 0
      have c20 := blk_cell p2 0
      have f11 := blk_frozen p1 1
      have c11 := blk_cell p1 1
      have f21 := blk_frozen p2 1
      have c21 := blk_cell p2 1
      have f12 := blk_frozen p1 2
      have c12 := blk_cell p1 2
      have f22 := blk_frozen p2 2
      have c22 := blk_cell p2 2
      have f13 := blk_frozen p1 3
      have c13 := blk_cell p1 3
      have f23 := blk_frozen p2 3
      have c23 := blk_cell p2 3
      have P1 := Aside0.mk p1
      have P2 := Aside0.mk p2
      clear p1 p2
      go_wp2_with fail
      have PF : (((((W.drewN nd).setCell ⟨w.heap.size + 1, 0, none⟩ (.int .u8 f0)).setCell ⟨w.heap.size + 1, 1, none⟩ (.int .u64 0)).setCell ⟨w.heap.size + 1, 2, none⟩ (.slice none 0 0)).setCell ⟨w.heap.size + 1, 3, none⟩ (.int .u64 (n3 : Int))).heap[w.heap.size + 1]? = some (.cells #[.int .u8 f0, .int .u64 0, .slice none 0 0, .int .u64 (n3 : Int)] 30 (0, 0)) := blk_set (blk_set (blk_set (blk_set P1.out 0 _) 1 _) 2 _) 3 _
      have hbw : Below w.heap.size w (((((W.drewN nd).setCell ⟨w.heap.size + 1, 0, none⟩ (.int .u8 f0)).setCell ⟨w.heap.size + 1, 1, none⟩ (.int .u64 0)).setCell ⟨w.heap.size + 1, 2, none⟩ (.slice none 0 0)).setCell ⟨w.heap.size + 1, 3, none⟩ (.int .u64 (n3 : Int))) := (((((pw_below_drewN HAL.out nd).setCell (Nat.le_succ _) _).setCell (Nat.le_succ _) _).setCell (Nat.le_succ _) _).setCell (Nat.le_succ _) _)
      refine bodyPost_ret (results_ctt rfl _ _ (w.heap.size + 1) _ #[.int .u8 f0, .int .u64 0, .slice none 0 0, .int .u64 (n3 : Int)] (0, 0) _ rfl PF Try.underlying30 rfl take_info) rfl ?_
      exact ⟨_, none, 0, rfl, Kd.R_nil _ _ _ _ _, Kd.C_nil _ _, Nat.le_refl _, (fun ad e => nomatch e), hbw⟩
    | some pr =>
      obtain ⟨nn, l'⟩ := pr
      obtain ⟨mm, e1, e2, _⟩ := hlay nn l' hnr
      obtain rfl : nn = mm := by omega
      rw [hnr] at KN
      have hlen : ln = (numN nn).length + l'.length := by rw [← HLL.out, e2, List.length_append]
      have hpos : 0 < (numN nn).length := by
        by_cases h : nn < 128
        · rw [numN_lo h]; simp
        · rw [numN_hi h]; simp
      have hn64 := (numR_u64 0 l 0 0 nn l' hnr (by decide) (by decide)).1
      have hdrop : l.drop (numN nn).length = l' := by rw [e2, List.drop_left]
      simp only [tellN] at KN
      obtain ⟨kk, hkk⟩ : ∃ kk, (numN nn).length = kk := ⟨_, rfl⟩
      obtain ⟨ll, hll⟩ : ∃ ll, l'.length = ll := ⟨_, rfl⟩
      rw [hkk] at hpos hdrop hlen
      rw [hll] at KN hlen
      rw [show ln - ll = kk by omega] at KN
      have z1 : ((kk : Int) == 0) = false := by simp; omega
      have z1' : (kk == 0) = false := by simp; omega
      have HDR := Aside0.mk hdrop
      have HLE := Aside0.mk (⟨hlen, hpos, hn64⟩ : ln = kk + ll ∧ 0 < kk ∧ nn < 18446744073709551616)
      have HLP := Aside0.mk hll
      have HBL := Aside0.mk (show Bytes l' from fun x hx => HBY.out x (by rw [e2]; exact List.mem_append_right _ hx))
      have HB1 := Aside0.mk (eBlob_more n3 hnr)
      have HB2 := Aside0.mk (eBlob_long n3 hnr)
      have HB3' := Aside0.mk (eBlob_ok n3 hnr)
      clear hlay hnr e1 e2 hkk hdrop hlen hpos hn64 hll
      by_cases hmo : n3 < nn
      · rw [HB1.out hmo]
        simp only
        have z2 : decide ((n3 : Int) < (nn : Int)) = true := decide_eq_true (by omega)
        have z2' : decide (n3 < nn) = true := decide_eq_true hmo
        clear hmo h1000
        go_enter Try.func25, Try.ntmps25
        have c00 := blk_cell Q0.out 0
        go_wp2_with fail
        rw [HW.out]
        refine KN.out.mono ?_
        rintro e w1 ⟨rfl, nd, rfl⟩
        have c03 := blk_cell (blk_drewN Q0.out nd) 3
        have c00 := blk_cell (blk_drewN Q0.out nd) 0
        clear KN
        have p1 : (W.drewN nd).heap[w.heap.size + 1]? = some (.cells #[.int .u8 0, .int .u64 0, .slice none 0 0, .int .u64 0] 30 (0, 0)) := blk_drewN Q1.out nd
        have p2 : (W.drewN nd).heap[w.heap.size + 1 + 1]? = some (.cells #[.int .u8 f0, .int .u64 0, .slice none 0 0, .int .u64 (n3 : Int)] 30 (0, 0)) := blk_drewN Q2.out nd
        have f10 := blk_frozen p1 0
        have c10 := blk_cell p1 0
        have f20 := blk_frozen p2 0
        have c20 := blk_cell p2 0
        have f11 := blk_frozen p1 1
        have c11 := blk_cell p1 1
        have f21 := blk_frozen p2 1
        have c21 := blk_cell p2 1
        have f12 := blk_frozen p1 2
        have c12 := blk_cell p1 2
        have f22 := blk_frozen p2 2
        have c22 := blk_cell p2 2
        have f13 := blk_frozen p1 3
        have c13 := blk_cell p1 3
        have f23 := blk_frozen p2 3
        have c23 := blk_cell p2 3
        have P1 := Aside0.mk p1
        have P2 := Aside0.mk p2
        clear p1 p2
        go_wp2_with fail
        have PF : (((((W.drewN nd).setCell ⟨w.heap.size + 1, 0, none⟩ (.int .u8 f0)).setCell ⟨w.heap.size + 1, 1, none⟩ (.int .u64 0)).setCell ⟨w.heap.size + 1, 2, none⟩ (.slice none 0 0)).setCell ⟨w.heap.size + 1, 3, none⟩ (.int .u64 (n3 : Int))).heap[w.heap.size + 1]? = some (.cells #[.int .u8 f0, .int .u64 0, .slice none 0 0, .int .u64 (n3 : Int)] 30 (0, 0)) := blk_set (blk_set (blk_set (blk_set P1.out 0 _) 1 _) 2 _) 3 _
        have hbw : Below w.heap.size w (((((W.drewN nd).setCell ⟨w.heap.size + 1, 0, none⟩ (.int .u8 f0)).setCell ⟨w.heap.size + 1, 1, none⟩ (.int .u64 0)).setCell ⟨w.heap.size + 1, 2, none⟩ (.slice none 0 0)).setCell ⟨w.heap.size + 1, 3, none⟩ (.int .u64 (n3 : Int))) := (((((pw_below_drewN HAL.out nd).setCell (Nat.le_succ _) _).setCell (Nat.le_succ _) _).setCell (Nat.le_succ _) _).setCell (Nat.le_succ _) _)
        refine bodyPost_ret (results_ctt rfl _ _ (w.heap.size + 1) _ #[.int .u8 f0, .int .u64 0, .slice none 0 0, .int .u64 (n3 : Int)] (0, 0) _ rfl PF Try.underlying30 rfl take_info) rfl ?_
        exact ⟨_, none, 0, rfl, Kd.R_nil _ _ _ _ _, Kd.C_nil _ _, Nat.le_refl _, (fun ad e => nomatch e), hbw⟩
      · have z2 : decide ((n3 : Int) < (nn : Int)) = false := decide_eq_false (by omega)
        have z2' : decide (n3 < nn) = false := decide_eq_false hmo
        have z3 : IntKind.u64.wrap (ll : Int) = (ll : Int) := by rw [IntKind.wrap_u64]; have := HLE.out; omega
        have z4 : (ln : Int) - (kk : Int) = (ll : Int) := by have := HLE.out; omega
        have z5 : wrap64 (ll : Int) = (ll : Int) := by unfold wrap64; have := HLE.out; omega
        by_cases hbl : l'.length < nn
        · rw [HB2.out hmo hbl]
          simp only
          rw [HLP.out] at hbl
          have z6 : decide ((ll : Int) < (nn : Int)) = true := decide_eq_true (by omega)
          have z6' : decide (ll < nn) = true := decide_eq_true hbl
          clear hmo hbl h1000
          go_enter Try.func25, Try.ntmps25
          have c00 := blk_cell Q0.out 0
          go_wp2_with fail
          rw [HW.out]
          refine KN.out.mono ?_
          rintro e w1 ⟨rfl, nd, rfl⟩
          have c03 := blk_cell (blk_drewN Q0.out nd) 3
          have c00 := blk_cell (blk_drewN Q0.out nd) 0
          clear KN
          have p1 : (W.drewN nd).heap[w.heap.size + 1]? = some (.cells #[.int .u8 0, .int .u64 0, .slice none 0 0, .int .u64 0] 30 (0, 0)) := blk_drewN Q1.out nd
          have p2 : (W.drewN nd).heap[w.heap.size + 1 + 1]? = some (.cells #[.int .u8 f0, .int .u64 0, .slice none 0 0, .int .u64 (n3 : Int)] 30 (0, 0)) := blk_drewN Q2.out nd
          have f10 := blk_frozen p1 0
          have c10 := blk_cell p1 0
          have f20 := blk_frozen p2 0
          have c20 := blk_cell p2 0
          have f11 := blk_frozen p1 1
          have c11 := blk_cell p1 1
          have f21 := blk_frozen p2 1
          have c21 := blk_cell p2 1
          have f12 := blk_frozen p1 2
          have c12 := blk_cell p1 2
          have f22 := blk_frozen p2 2
          have c22 := blk_cell p2 2
          have f13 := blk_frozen p1 3
          have c13 := blk_cell p1 3
          have f23 := blk_frozen p2 3
          have c23 := blk_cell p2 3
          have P1 := Aside0.mk p1
          have P2 := Aside0.mk p2
          clear p1 p2
          go_wp2_with fail
          have PF : (((((W.drewN nd).setCell ⟨w.heap.size + 1, 0, none⟩ (.int .u8 f0)).setCell ⟨w.heap.size + 1, 1, none⟩ (.int .u64 0)).setCell ⟨w.heap.size + 1, 2, none⟩ (.slice none 0 0)).setCell ⟨w.heap.size + 1, 3, none⟩ (.int .u64 (n3 : Int))).heap[w.heap.size + 1]? = some (.cells #[.int .u8 f0, .int .u64 0, .slice none 0 0, .int .u64 (n3 : Int)] 30 (0, 0)) := blk_set (blk_set (blk_set (blk_set P1.out 0 _) 1 _) 2 _) 3 _
          have hbw : Below w.heap.size w (((((W.drewN nd).setCell ⟨w.heap.size + 1, 0, none⟩ (.int .u8 f0)).setCell ⟨w.heap.size + 1, 1, none⟩ (.int .u64 0)).setCell ⟨w.heap.size + 1, 2, none⟩ (.slice none 0 0)).setCell ⟨w.heap.size + 1, 3, none⟩ (.int .u64 (n3 : Int))) := (((((pw_below_drewN HAL.out nd).setCell (Nat.le_succ _) _).setCell (Nat.le_succ _) _).setCell (Nat.le_succ _) _).setCell (Nat.le_succ _) _)
          refine bodyPost_ret (results_ctt rfl _ _ (w.heap.size + 1) _ #[.int .u8 f0, .int .u64 0, .slice none 0 0, .int .u64 (n3 : Int)] (0, 0) _ rfl PF Try.underlying30 rfl take_info) rfl ?_
          exact ⟨_, none, 0, rfl, Kd.R_nil _ _ _ _ _, Kd.C_nil _ _, Nat.le_refl _, (fun ad e => nomatch e), hbw⟩
        · rw [HB3'.out hmo hbl]
          simp only
          rw [HLP.out] at hbl
          have z6 : decide ((ll : Int) < (nn : Int)) = false := decide_eq_false (by omega)
          have z6' : decide (ll < nn) = false := decide_eq_false hbl
          obtain ⟨jj, hjj⟩ : ∃ jj, kk + nn = jj := ⟨_, rfl⟩
          have z7 : (kk : Int) + (nn : Int) = (jj : Int) := by omega
          have z8 : wrap64 (jj : Int) = (jj : Int) := by unfold wrap64; have := HLE.out; omega
          have z9 : IntKind.i64.wrap (nn : Int) = (nn : Int) := by rw [IntKind.wrap_i64]; omega
          obtain ⟨A', lo1, lo2, lo3⟩ := eye_lo (P := Try.prog) .u8 .i64 25 5 1 Try.underlying25 np_info A ln c jj (by have := HLE.out; omega) HC.out
          have lo1' := lo1
          have HL2 := Aside0.mk (fun w' => lo2 w' l)
          have HL3 := Aside0.mk lo3
          clear lo1 lo2 lo3
          obtain ⟨A1, mo1, mo2, mo3⟩ := eye_lo (P := Try.prog) .u8 .i64 25 5 1 Try.underlying25 np_info A ln c kk (by have := HLE.out; omega) HC.out
          have HMO := Aside0.mk (fun w' => mo2 w' l)
          have HLJ := Aside0.mk (⟨by omega, by omega, by omega⟩ : jj = kk + nn ∧ nn ≤ ll ∧ nn ≤ 1000)
          clear mo2 mo3 hmo hbl h1000 hjj
          go_enter Try.func25, Try.ntmps25
          have c00 := blk_cell Q0.out 0
          go_wp2_with fail
          rw [HW.out]
          refine KN.out.mono ?_
          rintro e w1 ⟨rfl, nd, rfl⟩
          have c03 := blk_cell (blk_drewN Q0.out nd) 3
          have c00 := blk_cell (blk_drewN Q0.out nd) 0
          clear KN
          have p1 : (W.drewN nd).heap[w.heap.size + 1]? = some (.cells #[.int .u8 0, .int .u64 0, .slice none 0 0, .int .u64 0] 30 (0, 0)) := blk_drewN Q1.out nd
          have p2 : (W.drewN nd).heap[w.heap.size + 1 + 1]? = some (.cells #[.int .u8 f0, .int .u64 0, .slice none 0 0, .int .u64 (n3 : Int)] 30 (0, 0)) := blk_drewN Q2.out nd
          have f10 := blk_frozen p1 0
          have c10 := blk_cell p1 0
          have f20 := blk_frozen p2 0
          have c20 := blk_cell p2 0
          have f11 := blk_frozen p1 1
          have c11 := blk_cell p1 1
          have f21 := blk_frozen p2 1
          have c21 := blk_cell p2 1
          have f12 := blk_frozen p1 2
          have c12 := blk_cell p1 2
          have f22 := blk_frozen p2 2
          have c22 := blk_cell p2 2
          have f13 := blk_frozen p1 3
          have c13 := blk_cell p1 3
          have f23 := blk_frozen p2 3
          have c23 := blk_cell p2 3
          have P1 := Aside0.mk p1
          have P2 := Aside0.mk p2
          clear p1 p2
          go_wp2_with fail
          refine (cut_any A1 (ln - kk) (c - kk) l' nn _ (by have := HMO.out _ (Kd.C_drewN HRW.out nd); rw [HDR.out] at this; exact this) (by have := HC.out; omega) (by have := HLJ.out; omega)).mono ?_
          rintro e w3 ⟨vo, rfl, ho, hb3⟩
          rw [Int.toNat_natCast] at ho
          obtain ⟨Qo, do_, hvo⟩ := Kd.R_slice ho
          obtain ⟨lo, hlo⟩ : ∃ lo, (l'.take nn).length = lo := ⟨_, rfl⟩
          rw [hlo] at hvo
          subst hvo
          clear hlo
          have HO := Aside0.mk ho
          have HB3 := Aside0.mk hb3
          have p1w := blk_below P1.out hb3
          have p2w := blk_below P2.out hb3
          clear ho hb3
          clear f10 c10 f20 c20 f11 c11 f21 c21 f12 c12 f22 c22 f13 c13 f23 c23 P1 P2
          have p1 : (w3).heap[w.heap.size + 1]? = some (.cells #[.int .u8 0, .int .u64 0, .slice none 0 0, .int .u64 0] 30 (0, 0)) := p1w
          have p2 : (w3).heap[w.heap.size + 1 + 1]? = some (.cells #[.int .u8 f0, .int .u64 0, .slice none 0 0, .int .u64 (n3 : Int)] 30 (0, 0)) := p2w
          have f10 := blk_frozen p1 0
          have c10 := blk_cell p1 0
          have f20 := blk_frozen p2 0
          have c20 := blk_cell p2 0
          have f11 := blk_frozen p1 1
          have c11 := blk_cell p1 1
          have f21 := blk_frozen p2 1
          have c21 := blk_cell p2 1
          have f12 := blk_frozen p1 2
          have c12 := blk_cell p1 2
          have f22 := blk_frozen p2 2
          have c22 := blk_cell p2 2
          have f13 := blk_frozen p1 3
          have c13 := blk_cell p1 3
          have f23 := blk_frozen p2 3
          have c23 := blk_cell p2 3
          have P1 := Aside0.mk p1
          have P2 := Aside0.mk p2
          clear p1 p2
          clear p1w p2w
          go_wp2_with fail
          go_region
          go_wp2_with fail
          have PF : ((((((w3).setCell ⟨w.heap.size + 1 + 1, 2, none⟩ (.slice Qo lo do_)).setCell ⟨w.heap.size + 1, 0, none⟩ (.int .u8 f0)).setCell ⟨w.heap.size + 1, 1, none⟩ (.int .u64 0)).setCell ⟨w.heap.size + 1, 2, none⟩ (.slice Qo lo do_)).setCell ⟨w.heap.size + 1, 3, none⟩ (.int .u64 (n3 : Int))).heap[w.heap.size + 1]? = some (.cells #[.int .u8 f0, .int .u64 0, .slice Qo lo do_, .int .u64 (n3 : Int)] 30 (0, 0)) := blk_set (blk_set (blk_set (blk_set ((Below.heap_setCell _ _ _ _ (by simp)).trans P1.out) 0 _) 1 _) 2 _) 3 _
          have hbw : Below w.heap.size w (((((((w3).setCell ⟨w.heap.size + 1 + 1, 2, none⟩ (.slice Qo lo do_)).setCell ⟨w.heap.size + 1, 0, none⟩ (.int .u8 f0)).setCell ⟨w.heap.size + 1, 1, none⟩ (.int .u64 0)).setCell ⟨w.heap.size + 1, 2, none⟩ (.slice Qo lo do_)).setCell ⟨w.heap.size + 1, 3, none⟩ (.int .u64 (n3 : Int))).drew) := (((((((pw_below_drewN HAL.out nd).trans (HB3.out.mono (by have := HS2.out; simp; omega))).setCell (by show w.heap.size ≤ w.heap.size + 1 + 1; omega) _).setCell (Nat.le_succ _) _).setCell (Nat.le_succ _) _).setCell (Nat.le_succ _) _).setCell (Nat.le_succ _) _).drew
          have hbW : Below w.heap.size W (((((((w3).setCell ⟨w.heap.size + 1 + 1, 2, none⟩ (.slice Qo lo do_)).setCell ⟨w.heap.size + 1, 0, none⟩ (.int .u8 f0)).setCell ⟨w.heap.size + 1, 1, none⟩ (.int .u64 0)).setCell ⟨w.heap.size + 1, 2, none⟩ (.slice Qo lo do_)).setCell ⟨w.heap.size + 1, 3, none⟩ (.int .u64 (n3 : Int))).drew) := (((((((pw_below_drewN (Below.refl w.heap.size W) nd).trans (HB3.out.mono (by have := HS2.out; simp; omega))).setCell (by show w.heap.size ≤ w.heap.size + 1 + 1; omega) _).setCell (Nat.le_succ _) _).setCell (Nat.le_succ _) _).setCell (Nat.le_succ _) _).setCell (Nat.le_succ _) _).drew
          have hdl : (l'.drop nn).length = ln - jj := by rw [List.length_drop, HLP.out]; have := HLE.out; have := HLJ.out; omega
          refine bodyPost_ret (results_ctt rfl _ _ (w.heap.size + 1) _ #[.int .u8 f0, .int .u64 0, .slice Qo lo do_, .int .u64 (n3 : Int)] (0, 0) _ rfl (show (((((((w3).setCell ⟨w.heap.size + 1 + 1, 2, none⟩ (.slice Qo lo do_)).setCell ⟨w.heap.size + 1, 0, none⟩ (.int .u8 f0)).setCell ⟨w.heap.size + 1, 1, none⟩ (.int .u64 0)).setCell ⟨w.heap.size + 1, 2, none⟩ (.slice Qo lo do_)).setCell ⟨w.heap.size + 1, 3, none⟩ (.int .u64 (n3 : Int))).drew).heap[w.heap.size + 1]? = _ from PF) Try.underlying30 rfl take_info) rfl ?_
          refine ⟨_, A', c - jj, by rw [hdl]; rfl, by have h9 := Kd.R_mono (Kd.R_bound HO.out) (ok' := fun b => (W.drewN nd).heap.size ≤ b) (fun b hb => hb.2.1); have hs := HS2.out; have hsd : (W.drewN nd).heap.size = W.heap.size := (by simp); exact Kd.R_lower (base := (W.drewN nd).heap.size) (Kd.R_mono (ok := fun b => (W.drewN nd).heap.size ≤ b) (Kd.R_drew (Kd.R_far (Kd.R_far (Kd.R_far (Kd.R_far (Kd.R_far h9 (fun b hb => by simp only; omega) _) (fun b hb => by simp only; omega) _) (fun b hb => by simp only; omega) _) (fun b hb => by simp only; omega) _) (fun b hb => by simp only; omega) _)) (fun _ _ => trivial)) (by omega), by rw [hdl]; exact C_low (by have := HL2.out W HRW.out; rw [HLJ.out.1, ← List.drop_drop, HDR.out] at this; rw [HLJ.out.1]; exact this) (fun ad e => by obtain ⟨ad0, e0, hb0⟩ := HL3.out ad e; rw [hb0]; exact HA.out ad0 e0) (hbW.mono HB.out), by rw [hdl]; have := HC.out; omega, fun ad e => by obtain ⟨ad0, e0, hb0⟩ := HL3.out ad e; rw [hb0]; exact HA.out ad0 e0, hbw⟩
/-- Take tells what take tells. -/
theorem rtake_any (B : Nat) (l : List Int) (x : S30) (A : Option Addr) (n c : Nat) (Af : Option Addr) (cf : Nat) (w : World) (hx : Fd x) (hr : (Kd.int .u8).C w A n l) (hA : ∀ ad, A = some ad → ad.block < B) (hB : B ≤ w.heap.size) (hc : n ≤ c) (hb : Bytes l) (hl : l.length ≤ 100000) (hm : Int.tmod x.f0 5 = 4 → x.f3 ≤ 1000) :
    Calls Try.prog 25 #[.slice A n c, .agg #[.int .u8 x.f0, .int .u64 x.f1, .slice Af x.f2.length cf, .int .u64 x.f3]] w fun e w' => RTook w w' B x (eTake x l false) e := by
  by_cases h : Int.tmod x.f0 5 < 3
  · exact rtake_fix B l x A n c Af cf w hx hr hA hB hc hb hl hm h
  · exact rtake_num B l x A n c Af cf w hx hr hA hB hc hb hl hm (by omega)
end Go.Proofs.Ythllblcbmpehlaa
