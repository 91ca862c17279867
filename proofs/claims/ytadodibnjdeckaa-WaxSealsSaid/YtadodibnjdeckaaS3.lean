/- WaxSeals, walked. -/
import Derived.Test.YtadodibnjdeckaaSo
import Derived.Test.YtadodibnjdeckaaWk
namespace Go.Proofs.Ytadodibnjdeckaa
open Go.RowKit Go.Proofs.YtadodibnjdeckaaW.PrintWords Go.Proofs.YtadodibnjdeckaaW.PrintLast Go.Proofs.YtadodibnjdeckaaW.PrintMore
set_option linter.unusedVariables false
set_option linter.unusedSimpArgs false

set_option maxRecDepth 100000 in
set_option maxHeartbeats 4000000 in
theorem waxSeals_walk (A : Option Addr) (n c : Nat) (l : List Int) (A1 : Option Addr) (n1 c1 : Nat) (l1 : List Int) (w : World) (hr : (Kd.int .u8).C w A n l) (hc : n ≤ c) (hb : Bytes l) (hr1 : (Kd.int .u8).C w A1 n1 l1) (hc1 : n1 ≤ c1) (hb1 : Bytes l1) :
    Calls Try.prog 5 #[.slice A n c, .slice A1 n1 c1] w fun e w' => e = .returned (.bool true) ∧ Below w.heap.size w w' := by
  have HR := Aside0.mk hr
  have HBY := Aside0.mk hb
  have HR1 := Aside0.mk hr1
  have HBY1 := Aside0.mk hb1
  clear hr hb hr1 hb1
  go_enter Try.func5, Try.ntmps5
  go_wp2_with fail
  refine (awake_any _).mono ?_
  rintro e w1 ⟨rfl, hb1⟩
  have HB1 := Aside0.mk hb1
  clear hb1
  go_wp2_with fail
  refine (cut_any _ _ _ l 200 _ (Kd.C_below HR.out HB1.out) hc (by omega)).mono ?_
  rintro e w2 ⟨v2, rfl, ho2, hb2⟩
  have HB2 := Aside0.mk (below_step HB1.out hb2)
  have HBP := Aside0.mk (HBY.out.take 200)
  have hpl : (l.take 200).length ≤ 200 := List.length_take_le _ _
  simp only [show (200 : Int).toNat = 200 from rfl] at ho2
  generalize l.take 200 = p at *
  obtain ⟨Q, d, rfl, hd, hC2⟩ := Kd.R_reads ho2
  have HP2 := Aside0.mk hC2
  clear ho2 hb2 hC2 HB1
  go_wp2_with fail
  refine (cut_any _ _ _ l1 20 _ (Kd.C_below HR1.out HB2.out) hc1 (by omega)).mono ?_
  rintro e w3 ⟨v3, rfl, ho3, hb3⟩
  have HB3 := Aside0.mk (below_step HB2.out hb3)
  have HP3 := Aside0.mk (Kd.C_below HP2.out hb3)
  have HBU := Aside0.mk (HBY1.out.take 20)
  have hul : (l1.take 20).length ≤ 20 := List.length_take_le _ _
  simp only [show (20 : Int).toNat = 20 from rfl] at ho3
  generalize l1.take 20 = u at *
  obtain ⟨U, d1, rfl, hd1, hC3⟩ := Kd.R_reads ho3
  have HU3 := Aside0.mk hC3
  clear ho3 hb3 hC3 HB2 HP2
  go_wp2_with fail
  refine (make_any _).mono ?_
  rintro e w4 ⟨T, rfl, hT, hb4⟩
  have HT := Aside0.mk hT
  have HB4 := Aside0.mk (below_step HB3.out hb4)
  have HP4 := Aside0.mk (Kd.C_below HP3.out hb4)
  have HU4 := Aside0.mk (Kd.C_below HU3.out hb4)
  clear hT hb4 HB3 HP3 HU3
  have Hsz : Aside0 ((Try.prog.info? 28).map (·.size) = some T.size) := ⟨by rw [HT.out.size]; kernel_rfl⟩
  have hz := zero_table
  have HGZ := Aside0.mk (heap_alloc_new w4 (Obj.cells Z256 28))
  have HGS := Aside0.mk (setRow_heap _ w4.heap.size _ T _ _ HGZ.out)
  have HPZ := Aside0.mk (Kd.C_below HP4.out (below_setRow (below_alloc (Below.refl _ _) (Obj.cells Z256 28)) (Nat.le_refl _) T))
  have HUZ := Aside0.mk (Kd.C_below HU4.out (below_setRow (below_alloc (Below.refl _ _) (Obj.cells Z256 28)) (Nat.le_refl _) T))
  have HBZ := Aside0.mk (below_setRow (below_alloc HB4.out (Obj.cells Z256 28)) HB4.out.size T)
  go_wp2_with (first | (refine wpList_store_row rfl 28 (.tmp 5) (.tmp 18) rfl w4.heap.size T rfl rfl 28 Z256 (heap_alloc_new _ _) Hsz.out (by rw [Z256_size, HT.out.size]) HT.out.one ?_) | (refine wpList_load_row rfl 28 (.tmp 5) rfl w4.heap.size rfl 28 T (0, 0) _ HGS.out Try.underlying28 rfl Hsz.out ?_))
  refine (seal_any tab T _ _ _ p _ HT.out HPZ.out hd HBP.out (by omega)).mono ?_
  rintro e w5 ⟨v5, rfl, ho5, hb5⟩
  have HB5 := Aside0.mk (below_step HBZ.out hb5)
  have HP5 := Aside0.mk (Kd.C_below HPZ.out hb5)
  have HU5 := Aside0.mk (Kd.C_below HUZ.out hb5)
  have hg5 : w5.heap[w4.heap.size]? = some (.cells T 28 (0, 0)) := (hb5.block _ (blk_lt HGS.out)).trans HGS.out
  have HG5 := Aside0.mk hg5
  have hml := sumN_lt tab p
  have hql : (p ++ tailL (sumN tab p)).length = p.length + 4 := by rw [List.length_append]; rfl
  have HQB := Aside0.mk (HBP.out.append (tailL_bytes hml))
  have HQD : Aside0 (decide ((p ++ tailL (sumN tab p)).drop (p.length + 4 - 4) = tailL (sumN tab ((p ++ tailL (sumN tab p)).take (p.length + 4 - 4)))) = true ∧ (p ++ tailL (sumN tab p)).take (p.length + 4 - 4) = p) := by
    rw [show p.length + 4 - 4 = p.length by omega, List.drop_left, List.take_left]
    exact ⟨⟨decide_eq_true rfl, rfl⟩⟩
  have HQE := Lib.hid (rfl : p ++ tailL (sumN tab p) = p ++ tailL (sumN tab p))
  generalize hq : p ++ tailL (sumN tab p) = q at ho5 hql HQB HQD
  replace HQE := Lib.hid hq
  clear hq
  obtain ⟨R, dq, rfl, hdq, hC5⟩ := Kd.R_reads ho5
  rw [hql] at hC5 hdq
  have HQ5 := Aside0.mk hC5
  clear ho5 hb5 hC5 HGZ HGS HPZ HUZ HBZ hz HB4 HP4 HU4 hg5
  rw [hql]
  generalize w4.heap.size = g at *
  go_wp2_with (first | (refine wpList_load_row rfl 28 (.tmp 5) rfl g rfl 28 T (0, 0) _ HG5.out Try.underlying28 rfl Hsz.out ?_))
  refine (open_long true tab T _ _ _ q _ HT.out HQ5.out hdq HQB.out (by omega) (by omega) HQD.out.1).mono ?_
  rintro e w6 ⟨v6, rfl, ho6, hb6⟩
  simp only [if_true, HQD.out.2] at ho6
  obtain ⟨X, dx, rfl, hdx, hC6⟩ := Kd.R_reads ho6
  have HB6 := Aside0.mk (below_step HB5.out hb6)
  have HP6 := Aside0.mk (Kd.C_below HP5.out hb6)
  have HU6 := Aside0.mk (Kd.C_below HU5.out hb6)
  have HQ6 := Aside0.mk (Kd.C_below HQ5.out hb6)
  have HX6 := Aside0.mk hC6
  have HG6 := Aside0.mk ((hb6.block _ (blk_lt HG5.out)).trans HG5.out)
  clear ho6 hb6 hC6 HB5 HP5 HU5 HQ5 HG5
  go_wp2_with (first | (refine wpList_load_row rfl 28 (.tmp 5) rfl g rfl 28 T (0, 0) _ HG6.out Try.underlying28 rfl Hsz.out ?_))
  by_cases hu4 : u.length < 4
  · refine (open_short T _ _ _ _ hu4).mono ?_
    rintro e w7 ⟨rfl, hb7⟩
    have HB7 := Aside0.mk (below_step HB6.out hb7)
    have HP7 := Aside0.mk (Kd.C_below HP6.out hb7)
    have HU7 := Aside0.mk (Kd.C_below HU6.out hb7)
    have HQ7 := Aside0.mk (Kd.C_below HQ6.out hb7)
    have HX7 := Aside0.mk (Kd.C_below HX6.out hb7)
    clear hb7 HB6 HP6 HU6 HQ6 HX6 HG6
    have h4 : decide ((u.length : Int) < 4) = true := decide_eq_true (by omega)
    go_wp2_with fail
    refine (refseal_any _ _ _ p _ HP7.out hd HBP.out (by omega)).mono ?_
    rintro e w8 ⟨v8, rfl, ho8, hb8⟩
    rw [HQE.out] at ho8
    obtain ⟨S, ds, rfl, hds, hC8⟩ := Kd.R_reads ho8
    rw [hql] at hC8 hds
    have HB8 := Aside0.mk (below_step HB7.out hb8)
    have HP8 := Aside0.mk (Kd.C_below HP7.out hb8)
    have HU8 := Aside0.mk (Kd.C_below HU7.out hb8)
    have HQ8 := Aside0.mk (Kd.C_below HQ7.out hb8)
    have HX8 := Aside0.mk (Kd.C_below HX7.out hb8)
    have HS8 := Aside0.mk hC8
    clear ho8 hb8 hC8 HB7 HP7 HU7 HQ7 HX7
    rw [hql]
    go_wp2_with fail
    refine (same_is true _ _ _ _ _ _ q q _ HQ8.out hdq HS8.out hds (decide_eq_true rfl)).mono ?_
    rintro e w9 ⟨rfl, ⟨nd, rfl⟩⟩
    go_wp2_with fail
    refine (same_is true _ _ _ _ _ _ p p _ (Kd.C_drewN HX8.out _) hdx (Kd.C_drewN HP8.out _) hd (decide_eq_true rfl)).mono ?_
    rintro e w10 ⟨rfl, ⟨nd2, rfl⟩⟩
    go_wp2
    go_ret
    exact ⟨rfl, pw_below_drewN HB8.out _⟩
  · have h4 : decide ((u.length : Int) < 4) = false := decide_eq_false (by omega)
    obtain ⟨β, hβ⟩ : ∃ β, decide (u.drop (u.length - 4) = tailL (sumN tab (u.take (u.length - 4)))) = β := ⟨_, rfl⟩
    have HBE := Lib.hid hβ
    refine (open_long β tab T _ _ _ u _ HT.out HU6.out hd1 HBU.out (by omega) (by omega) hβ).mono ?_
    rintro e w7 ⟨v7, rfl, ho7, hb7⟩
    obtain ⟨Y, dy, rfl, hdy, hC7⟩ := Kd.R_reads ho7
    have HB7 := Aside0.mk (below_step HB6.out hb7)
    have HP7 := Aside0.mk (Kd.C_below HP6.out hb7)
    have HU7 := Aside0.mk (Kd.C_below HU6.out hb7)
    have HQ7 := Aside0.mk (Kd.C_below HQ6.out hb7)
    have HX7 := Aside0.mk (Kd.C_below HX6.out hb7)
    have HY7 := Aside0.mk hC7
    clear ho7 hb7 hC7 HB6 HP6 HU6 HQ6 HX6 HG6 hβ
    cases β with
    | true =>
      simp only [if_true] at *
      have hlt : (u.take (u.length - 4)).length = u.length - 4 := by rw [List.length_take]; omega
      rw [hlt] at HY7 hdy ⊢
      go_wp2_with fail
      refine (refopen_any true _ _ _ u _ HU7.out hd1 HBU.out (by omega) (by omega) HBE.out).mono ?_
      rintro e w72 ⟨rfl, hb72⟩
      have HB72 := Aside0.mk (below_step HB7.out hb72)
      have HP72 := Aside0.mk (Kd.C_below HP7.out hb72)
      have HU72 := Aside0.mk (Kd.C_below HU7.out hb72)
      have HQ72 := Aside0.mk (Kd.C_below HQ7.out hb72)
      have HX72 := Aside0.mk (Kd.C_below HX7.out hb72)
      have HY72 := Aside0.mk (Kd.C_below HY7.out hb72)
      clear hb72 HB7 HP7 HU7 HQ7 HX7 HY7
      have HB7 := HB72
      have HP7 := HP72
      have HU7 := HU72
      have HQ7 := HQ72
      have HX7 := HX72
      have HY7 := HY72
      clear HB72 HP72 HU72 HQ72 HX72 HY72
      go_wp2_with fail
      refine (refseal_any _ _ _ p _ HP7.out hd HBP.out (by omega)).mono ?_
      rintro e w8 ⟨v8, rfl, ho8, hb8⟩
      rw [HQE.out] at ho8
      obtain ⟨S, ds, rfl, hds, hC8⟩ := Kd.R_reads ho8
      rw [hql] at hC8 hds
      have HB8 := Aside0.mk (below_step HB7.out hb8)
      have HP8 := Aside0.mk (Kd.C_below HP7.out hb8)
      have HU8 := Aside0.mk (Kd.C_below HU7.out hb8)
      have HQ8 := Aside0.mk (Kd.C_below HQ7.out hb8)
      have HX8 := Aside0.mk (Kd.C_below HX7.out hb8)
      have HS8 := Aside0.mk hC8
      have HY8 := Aside0.mk (Kd.C_below HY7.out hb8)
      clear HY7
      clear ho8 hb8 hC8 HB7 HP7 HU7 HQ7 HX7
      rw [hql]
      obtain ⟨hq2, hC2⟩ := cut_hi (P := Try.prog) .u8 .i64 22 5 1 Try.underlying22 wx_info5 U u.length d1 (u.length - 4) (by omega) hd1
      have hcast : (u.length : Int) - 4 = ((u.length - 4 : Nat) : Int) := by omega
      rw [← hcast] at hq2
      have HU9 := Aside0.mk (hC2 _ _ HU8.out)
      clear hC2 hcast
      go_wp2_with fail
      refine (same_is true _ _ _ _ _ _ q q _ HQ8.out hdq HS8.out hds (decide_eq_true rfl)).mono ?_
      rintro e w9 ⟨rfl, ⟨nd, rfl⟩⟩
      go_wp2_with fail
      refine (same_is true _ _ _ _ _ _ p p _ (Kd.C_drewN HX8.out _) hdx (Kd.C_drewN HP8.out _) hd (decide_eq_true rfl)).mono ?_
      rintro e w10 ⟨rfl, ⟨nd2, rfl⟩⟩
      go_wp2_with fail
      refine (same_is true _ _ _ _ _ _ (u.take (u.length - 4)) (u.take (u.length - 4)) _ (Kd.C_drewN HY8.out _) hdy (Kd.C_drewN HU9.out _) (by omega) (decide_eq_true rfl)).mono ?_
      rintro e w11 ⟨rfl, ⟨nd3, rfl⟩⟩
      go_wp2
      go_ret
      exact ⟨rfl, pw_below_drewN HB8.out _⟩
    | false =>
      simp only [Bool.false_eq_true, if_false, List.length_nil] at *
      go_wp2_with fail
      refine (refopen_any false _ _ _ u _ HU7.out hd1 HBU.out (by omega) (by omega) HBE.out).mono ?_
      rintro e w72 ⟨rfl, hb72⟩
      have HB72 := Aside0.mk (below_step HB7.out hb72)
      have HP72 := Aside0.mk (Kd.C_below HP7.out hb72)
      have HU72 := Aside0.mk (Kd.C_below HU7.out hb72)
      have HQ72 := Aside0.mk (Kd.C_below HQ7.out hb72)
      have HX72 := Aside0.mk (Kd.C_below HX7.out hb72)
      have HY72 := Aside0.mk (Kd.C_below HY7.out hb72)
      clear hb72 HB7 HP7 HU7 HQ7 HX7 HY7
      have HB7 := HB72
      have HP7 := HP72
      have HU7 := HU72
      have HQ7 := HQ72
      have HX7 := HX72
      have HY7 := HY72
      clear HB72 HP72 HU72 HQ72 HX72 HY72
      go_wp2_with fail
      refine (refseal_any _ _ _ p _ HP7.out hd HBP.out (by omega)).mono ?_
      rintro e w8 ⟨v8, rfl, ho8, hb8⟩
      rw [HQE.out] at ho8
      obtain ⟨S, ds, rfl, hds, hC8⟩ := Kd.R_reads ho8
      rw [hql] at hC8 hds
      have HB8 := Aside0.mk (below_step HB7.out hb8)
      have HP8 := Aside0.mk (Kd.C_below HP7.out hb8)
      have HU8 := Aside0.mk (Kd.C_below HU7.out hb8)
      have HQ8 := Aside0.mk (Kd.C_below HQ7.out hb8)
      have HX8 := Aside0.mk (Kd.C_below HX7.out hb8)
      have HS8 := Aside0.mk hC8
      have HY8 := Aside0.mk (Kd.C_below HY7.out hb8)
      clear HY7
      clear ho8 hb8 hC8 HB7 HP7 HU7 HQ7 HX7
      rw [hql]
      go_wp2_with fail
      refine (same_is true _ _ _ _ _ _ q q _ HQ8.out hdq HS8.out hds (decide_eq_true rfl)).mono ?_
      rintro e w9 ⟨rfl, ⟨nd, rfl⟩⟩
      go_wp2_with fail
      refine (same_is true _ _ _ _ _ _ p p _ (Kd.C_drewN HX8.out _) hdx (Kd.C_drewN HP8.out _) hd (decide_eq_true rfl)).mono ?_
      rintro e w10 ⟨rfl, ⟨nd2, rfl⟩⟩
      go_wp2
      go_ret
      exact ⟨rfl, pw_below_drewN HB8.out _⟩

end Go.Proofs.Ytadodibnjdeckaa
