/- WaxShows, walked. -/
import Derived.Test.YtadodibnjdeckaaSo
import Derived.Test.YtadodibnjdeckaaSt
import Derived.Test.YtadodibnjdeckaaWk
namespace Go.Proofs.Ytadodibnjdeckaa
open Go.RowKit Go.Proofs.YtadodibnjdeckaaW.PrintWords Go.Proofs.YtadodibnjdeckaaW.PrintLast Go.Proofs.YtadodibnjdeckaaW.PrintMore
set_option linter.unusedVariables false
set_option linter.unusedSimpArgs false

set_option maxRecDepth 100000 in
set_option maxHeartbeats 4000000 in
theorem waxShows_walk (A : Option Addr) (n c : Nat) (l : List Int) (at_ mask : Int) (w : World) (hr : (Kd.int .u8).C w A n l) (hc : n ≤ c) (hb : Bytes l) (hat : 0 ≤ at_ ∧ at_ < 65536) (hmask : 0 ≤ mask ∧ mask < 4294967296) :
    Calls Try.prog 6 #[.slice A n c, .int .u16 at_, .int .u32 mask] w fun e w' => e = .returned (.bool true) ∧ Below w.heap.size w w' := by
  have HR := Aside0.mk hr
  have HBY := Aside0.mk hb
  clear hr hb
  go_enter Try.func6, Try.ntmps6
  go_wp2_with fail
  refine (awake_any _).mono ?_
  rintro e w1 ⟨rfl, hb1⟩
  have HB1 := Aside0.mk hb1
  clear hb1
  go_wp2_with fail
  refine (cut_any _ _ _ l 300 _ (Kd.C_below HR.out HB1.out) hc (by omega)).mono ?_
  rintro e w2 ⟨v2, rfl, ho2, hb2⟩
  have HB2 := Aside0.mk (below_step HB1.out hb2)
  have HBP := Aside0.mk (HBY.out.take 300)
  have hpl : (l.take 300).length ≤ 300 := List.length_take_le _ _
  simp only [show (300 : Int).toNat = 300 from rfl] at ho2
  generalize l.take 300 = p at *
  obtain ⟨Q, d, rfl, hd, hC2⟩ := Kd.R_reads ho2
  have HP2 := Aside0.mk hC2
  clear ho2 hb2 hC2 HB1
  go_wp2_with fail
  refine (make_any _).mono ?_
  rintro e w4 ⟨T, rfl, hT, hb4⟩
  have HT := Aside0.mk hT
  have HB4 := Aside0.mk (below_step HB2.out hb4)
  have HP4 := Aside0.mk (Kd.C_below HP2.out hb4)
  clear hT hb4 HB2 HP2
  have Hsz : Aside0 ((Try.prog.info? 28).map (·.size) = some T.size) := ⟨by rw [HT.out.size]; kernel_rfl⟩
  have hz := zero_table
  have HGZ := Aside0.mk (heap_alloc_new w4 (Obj.cells Z256 28))
  have HGS := Aside0.mk (setRow_heap _ w4.heap.size _ T _ _ HGZ.out)
  have HPZ := Aside0.mk (Kd.C_below HP4.out (below_setRow (below_alloc (Below.refl _ _) (Obj.cells Z256 28)) (Nat.le_refl _) T))
  have HBZ := Aside0.mk (below_setRow (below_alloc HB4.out (Obj.cells Z256 28)) HB4.out.size T)
  go_wp2_with (first | (refine wpList_store_row rfl 28 (.tmp 7) (.tmp 16) rfl w4.heap.size T rfl rfl 28 Z256 (heap_alloc_new _ _) Hsz.out (by rw [Z256_size, HT.out.size]) HT.out.one ?_) | (refine wpList_load_row rfl 28 (.tmp 7) rfl w4.heap.size rfl 28 T (0, 0) _ HGS.out Try.underlying28 rfl Hsz.out ?_))
  refine (seal_any tab T _ _ _ p _ HT.out HPZ.out hd HBP.out (by omega)).mono ?_
  rintro e w5 ⟨v5, rfl, ho5, hb5⟩
  have HB5 := Aside0.mk (below_step HBZ.out hb5)
  have HP5 := Aside0.mk (Kd.C_below HPZ.out hb5)
  have HG5 := Aside0.mk ((hb5.block _ (blk_lt HGS.out)).trans HGS.out)
  have hg5 := blk_lt HGS.out
  have hml := sumN_lt tab p
  have hql : (p ++ tailL (sumN tab p)).length = p.length + 4 := by rw [List.length_append]; rfl
  have HQB := Aside0.mk (HBP.out.append (tailL_bytes hml))
  generalize hq : p ++ tailL (sumN tab p) = q at ho5 hql HQB
  have HQE := Lib.hid hq
  clear hq
  obtain ⟨R, dq, rfl, hdq, hC5⟩ := Kd.R_reads ho5
  rw [hql] at hC5 hdq
  have HQ5 := Aside0.mk hC5
  have hqs : q.drop p.length = tailL (sumN tab (q.take p.length)) := by rw [← HQE.out, List.drop_left, List.take_left]
  have HQS := Lib.hid hqs
  have HQL := Lib.hid hql
  clear ho5 hb5 hC5 HGZ HGS HPZ HBZ hz HB4 HP4 hqs
  rw [hql]
  clear hql
  generalize w4.heap.size = g at *
  obtain ⟨a, rfl⟩ := Int.eq_ofNat_of_zero_le hat.1
  obtain ⟨m, rfl⟩ := Int.eq_ofNat_of_zero_le hmask.1
  have hae : (a : Int) % (8 * ((p.length : Int) + 4)) = ((a % (8 * (p.length + 4)) : Nat) : Int) := by push_cast; rfl
  have hal : a % (8 * (p.length + 4)) < 8 * (p.length + 4) := Nat.mod_lt _ (by omega)
  generalize a % (8 * (p.length + 4)) = s at *
  have hp4 : (1 : Int) ≤ 8 * ((p.length : Int) + 4) := by omega
  go_wp2_with fail
  refine (turned_any _ _ _ q s m _ HQ5.out hdq HQB.out (by omega) (by omega)).mono ?_
  rintro e w6 ⟨v6, r, M, rfl, ho6, hb6, hbr, hlr, hM, hv⟩
  have HB6 := Aside0.mk (below_step HB5.out hb6)
  have HQ6 := Aside0.mk (Kd.C_below HQ5.out hb6)
  have HG6 := Aside0.mk ((hb6.block _ (blk_lt HG5.out)).trans HG5.out)
  have HBD := Aside0.mk (burst_shown HQB.out hbr HQL.out hlr hal hM hv HQS.out)
  have HRB := Aside0.mk hbr
  obtain ⟨X, dx, rfl, hdx, hC6⟩ := Kd.R_reads ho6
  rw [hlr] at hC6 hdx ⊢
  have HX6 := Aside0.mk hC6
  clear ho6 hb6 hC6 hbr hM hv HB5 HQ5 HG5 hae hlr HP5
  go_wp2_with (first | (refine wpList_load_row rfl 28 (.tmp 7) rfl g rfl 28 T (0, 0) _ HG6.out Try.underlying28 rfl Hsz.out ?_))
  have hO : ∀ β : Bool, decide (q = r) = β → decide (r.drop (p.length + 4 - 4) = tailL (sumN tab (r.take (p.length + 4 - 4)))) = β := fun β h => by
    rw [show p.length + 4 - 4 = p.length by omega, HBD.out, h]
  by_cases hqr : q = r
  · refine (open_long true tab T _ _ _ r _ HT.out HX6.out hdx HRB.out (by omega) (by omega) (hO true (decide_eq_true hqr))).mono ?_
    rintro e w7 ⟨v7, rfl, ho7, hb7⟩
    simp only [if_true] at ho7
    obtain ⟨Y, dy, rfl, _, _⟩ := Kd.R_reads ho7
    have HB7 := Aside0.mk (below_step HB6.out hb7)
    have HQ7 := Aside0.mk (Kd.C_below HQ6.out hb7)
    have HX7 := Aside0.mk (Kd.C_below HX6.out hb7)
    clear ho7 hb7 hO
    go_wp2_with fail
    refine (same_is true _ _ _ _ _ _ q r _ HQ7.out hdq HX7.out hdx (decide_eq_true hqr)).mono ?_
    rintro e w8 ⟨rfl, ⟨nd, rfl⟩⟩
    clear hqr
    go_wp2
    go_ret
    exact ⟨rfl, pw_below_drewN HB7.out _⟩
  · refine (open_long false tab T _ _ _ r _ HT.out HX6.out hdx HRB.out (by omega) (by omega) (hO false (decide_eq_false hqr))).mono ?_
    rintro e w7 ⟨v7, rfl, ho7, hb7⟩
    simp only [Bool.false_eq_true, if_false] at ho7
    obtain ⟨Y, dy, rfl, _, _⟩ := Kd.R_reads ho7
    have HB7 := Aside0.mk (below_step HB6.out hb7)
    have HQ7 := Aside0.mk (Kd.C_below HQ6.out hb7)
    have HX7 := Aside0.mk (Kd.C_below HX6.out hb7)
    clear ho7 hb7 hO
    go_wp2_with fail
    refine (same_is false _ _ _ _ _ _ q r _ HQ7.out hdq HX7.out hdx (decide_eq_false hqr)).mono ?_
    rintro e w8 ⟨rfl, ⟨nd, rfl⟩⟩
    clear hqr
    go_wp2
    go_ret
    exact ⟨rfl, pw_below_drewN HB7.out _⟩

end Go.Proofs.Ytadodibnjdeckaa
