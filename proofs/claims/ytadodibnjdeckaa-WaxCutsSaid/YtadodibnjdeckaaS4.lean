/- WaxCuts, walked. -/
import Derived.Test.YtadodibnjdeckaaSo
import Derived.Test.YtadodibnjdeckaaSi
import Derived.Test.YtadodibnjdeckaaWk
namespace Go.Proofs.Ytadodibnjdeckaa
open Go.RowKit Go.Proofs.YtadodibnjdeckaaW.PrintWords Go.Proofs.YtadodibnjdeckaaW.PrintLast Go.Proofs.YtadodibnjdeckaaW.PrintMore
set_option linter.unusedVariables false
set_option linter.unusedSimpArgs false

/-- One byte of the sum turned. -/
theorem cut_plain {p : List Int} {t b j : Nat} {q : List Int} (hq : p ++ tailL (sumN tab p) = q) (hj : j < 4) (ht : t < 256) (hi : p.length + j < q.length) (hb : q[p.length + j] = (b : Int)) (hbl : b < 256) :
    (q.set (p.length + j) ((b ^^^ t : Nat) : Int)).take p.length = p ∧ decide ((q.set (p.length + j) ((b ^^^ t : Nat) : Int)).drop p.length = tailL (sumN tab p)) = ((t : Int) == 0) := by
  subst hq
  have htl : (tailL (sumN tab p)).length = 4 := rfl
  have h1 : (p ++ tailL (sumN tab p)).set (p.length + j) ((b ^^^ t : Nat) : Int) = p ++ (tailL (sumN tab p)).set j ((b ^^^ t : Nat) : Int) := by
    rw [List.set_append_right _ _ (by omega), show p.length + j - p.length = j by omega]
  have h2 : (tailL (sumN tab p))[j]'(by omega) = (b : Int) := by
    rw [← hb, List.getElem_append_right (by omega)]
    congr 1; omega
  rw [h1, List.take_left, List.drop_left]
  refine ⟨rfl, ?_⟩
  rw [Bool.eq_iff_iff, decide_eq_true_iff, beq_iff_eq]
  constructor
  · intro h
    have h3 : ((tailL (sumN tab p)).set j ((b ^^^ t : Nat) : Int))[j]'(by rw [List.length_set]; omega) = (tailL (sumN tab p))[j]'(by omega) := by congr 1
    rw [List.getElem_set_self, h2] at h3
    have h4 : b ^^^ t = b := by omega
    have h5 : b ^^^ (b ^^^ t) = 0 := by rw [h4, Nat.xor_self]
    rw [← Nat.xor_assoc, Nat.xor_self, Nat.zero_xor] at h5
    omega
  · intro h
    have h3 : t = 0 := by omega
    subst h3
    rw [Nat.xor_zero, ← h2, List.set_getElem_self]

set_option maxRecDepth 100000 in
set_option maxHeartbeats 4000000 in
theorem waxCuts_walk (A : Option Addr) (n c : Nat) (l : List Int) (ki turn : Int) (w : World) (hr : (Kd.int .u8).C w A n l) (hc : n ≤ c) (hb : Bytes l) (hki : 0 ≤ ki ∧ ki < 256) (hturn : 0 ≤ turn ∧ turn < 256) :
    Calls Try.prog 7 #[.slice A n c, .int .u8 ki, .int .u8 turn] w fun e w' => e = .returned (.bool true) ∧ Below w.heap.size w w' := by
  have HR := Aside0.mk hr
  have HBY := Aside0.mk hb
  clear hr hb
  go_enter Try.func7, Try.ntmps7
  go_wp2_with fail
  refine (awake_any _).mono ?_
  rintro e w1 ⟨rfl, hb1⟩
  have HB1 := Aside0.mk hb1
  clear hb1
  go_wp2_with fail
  refine (cut_any _ _ _ l 100 _ (Kd.C_below HR.out HB1.out) hc (by omega)).mono ?_
  rintro e w2 ⟨v2, rfl, ho2, hb2⟩
  have HB2 := Aside0.mk (below_step HB1.out hb2)
  have HBP := Aside0.mk (HBY.out.take 100)
  have hpl : (l.take 100).length ≤ 100 := List.length_take_le _ _
  simp only [show (100 : Int).toNat = 100 from rfl] at ho2
  generalize l.take 100 = p at *
  obtain ⟨Q, d, rfl, hd, hC2⟩ := Kd.R_reads ho2
  have HP2 := Aside0.mk hC2
  clear ho2 hb2 hC2 HB1
  go_wp2_with fail
  refine (make_any _).mono ?_
  rintro e w4 ⟨T, rfl, hT, hb4⟩
  have HT := Aside0.mk hT
  have HB4 := Aside0.mk (below_step HB2.out hb4)
  have HP4 := Aside0.mk (Kd.C_below HP2.out hb4)
  clear hT hb4 HB2 HP2
  have Hsz : Aside0 ((Try.prog.info? 28).map (·.size) = some T.size) := ⟨by rw [HT.out.size]; kernel_rfl⟩
  have hz := zero_table
  have HGZ := Aside0.mk (heap_alloc_new w4 (Obj.cells Z256 28))
  have HGS := Aside0.mk (setRow_heap _ w4.heap.size _ T _ _ HGZ.out)
  have HPZ := Aside0.mk (Kd.C_below HP4.out (below_setRow (below_alloc (Below.refl _ _) (Obj.cells Z256 28)) (Nat.le_refl _) T))
  have HBZ := Aside0.mk (below_setRow (below_alloc HB4.out (Obj.cells Z256 28)) HB4.out.size T)
  go_wp2_with (first | (refine wpList_store_row rfl 28 (.tmp 7) (.tmp 15) rfl w4.heap.size T rfl rfl 28 Z256 (heap_alloc_new _ _) Hsz.out (by rw [Z256_size, HT.out.size]) HT.out.one ?_) | (refine wpList_load_row rfl 28 (.tmp 7) rfl w4.heap.size rfl 28 T (0, 0) _ HGS.out Try.underlying28 rfl Hsz.out ?_))
  refine (seal_any tab T _ _ _ p _ HT.out HPZ.out hd HBP.out (by omega)).mono ?_
  rintro e w5 ⟨v5, rfl, ho5, hb5⟩
  have HB5 := Aside0.mk (below_step HBZ.out hb5)
  have HP5 := Aside0.mk (Kd.C_below HPZ.out hb5)
  have HG5 := Aside0.mk ((hb5.block _ (blk_lt HGS.out)).trans HGS.out)
  have hg5 := blk_lt HGS.out
  have hml := sumN_lt tab p
  have hql : (p ++ tailL (sumN tab p)).length = p.length + 4 := by rw [List.length_append]; rfl
  have HQB := Aside0.mk (HBP.out.append (tailL_bytes hml))
  generalize hq : p ++ tailL (sumN tab p) = q at ho5 hql HQB
  have HQE := Lib.hid hq
  clear hq
  have hown := Kd.own_of_R (enc := Value.int .u8) (h1 := fun _ => rfl) ho5
  obtain ⟨gq, cq, rfl, hgb, hgl⟩ := hown.form (by omega)
  have hgb5 := HBZ.out.size
  generalize hwz : (w4.alloc (Obj.cells Z256 28)).setRow w4.heap.size T = wz at *
  rw [hql] at hown
  obtain ⟨kn, rfl⟩ := Int.eq_ofNat_of_zero_le hki.1
  obtain ⟨tn, rfl⟩ := Int.eq_ofNat_of_zero_le hturn.1
  have hj4 : 3 - kn % 4 < 4 := by omega
  have hiq : p.length + (3 - kn % 4) < q.length := by omega
  obtain ⟨b, hbe, hbl⟩ := HQB.out.nat hiq
  have hat2 := own_at (k := .u8) hown ((p.length + (3 - kn % 4) : Nat) : Int) (by omega) (by omega)
  rw [Int.toNat_natCast, rd_getElem hiq, hbe] at hat2
  obtain ⟨hcq, hfq⟩ := hat2
  have hst := (own_store (k := .u8) hown ((p.length + (3 - kn % 4) : Nat) : Int) ((b ^^^ tn : Nat) : Int)).1
  rw [Int.toNat_natCast] at hst
  have hx : bits .xor .u8 (b : Int) (tn : Int) = ((b ^^^ tn : Nat) : Int) := u8_xor_nat b tn hbl (by omega)
  have hxl : b ^^^ tn < 256 := Nat.xor_lt_two_pow (n := 8) (by omega) (by omega)
  have HPL := Aside0.mk (cut_plain (t := tn) HQE.out hj4 (by omega) hiq hbe hbl)
  have hix : (p.length : Int) + 4 - 1 - (kn : Int) % 4 = ((p.length + (3 - kn % 4) : Nat) : Int) := by omega
  have HQ2 : Aside0 (Bytes (q.set (p.length + (3 - kn % 4)) ((b ^^^ tn : Nat) : Int)) ∧ (q.set (p.length + (3 - kn % 4)) ((b ^^^ tn : Nat) : Int)).length = p.length + 4) := ⟨⟨fun y hy => by
    rcases List.mem_or_eq_of_mem_set hy with h | h
    · exact HQB.out y h
    · rw [h]; omega, by rw [List.length_set]; exact hql⟩⟩
  have HST := Aside0.mk hst
  have HBS := Aside0.mk (hb5.setCell (p := ⟨gq, p.length + (3 - kn % 4), none⟩) hgb (.int .u8 ((b ^^^ tn : Nat) : Int)))
  have HBE := Lib.hid hbe
  have HIX := Lib.hid hix
  have HQL := Lib.hid hql
  clear hown ho5 hst hbe hb5 HQB hix HGZ HP4 HB4 hz HP5 HG5 HB5
  rw [hql]
  clear hql
  generalize hi : p.length + (3 - kn % 4) = i at *
  have hip : i < p.length + 4 := by omega
  have hpi : p.length + 3 - kn % 4 = i := by omega
  clear hi
  have hix := HIX.out
  have HGX := Aside0.mk ((HBS.out.block _ (blk_lt HGS.out)).trans HGS.out)
  go_wp2_with (first | (refine wpList_load_row rfl 28 (.tmp 7) rfl w4.heap.size rfl 28 T (0, 0) _ HGX.out Try.underlying28 rfl Hsz.out ?_))
  clear HGX
  obtain ⟨W6, hW6⟩ : ∃ W6, W6 = w5.setCell ⟨gq, i, none⟩ (.int .u8 ((b ^^^ tn : Nat) : Int)) := ⟨_, rfl⟩
  rw [← hW6]
  rw [← hW6] at HST HBS
  have HB6 := Aside0.mk (below_step HBZ.out HBS.out)
  have HP6 := Aside0.mk (Kd.C_below HPZ.out HBS.out)
  have HG6 := Aside0.mk ((HBS.out.block _ (blk_lt HGS.out)).trans HGS.out)
  have hR := Kd.R_of_own (enc := Value.int .u8) (h1 := fun _ => rfl) (xs := q.set i ((b ^^^ tn : Nat) : Int)) (ok := fun _ => True) (by rw [HQ2.out.2]; exact HST.out) (fun _ _ => trivial)
  rw [← HQ2.out.2] at hR
  obtain ⟨Q6, c6, e6, hc6, hC6⟩ := Kd.R_reads hR
  injection e6 with e1 e2 e3
  subst e1 e3
  rw [HQ2.out.2] at hc6
  have HQ6 : Aside0 ((Kd.int .u8).C W6 (some ⟨gq, 0, none⟩) (p.length + 4) (q.set i ((b ^^^ tn : Nat) : Int))) := ⟨by have h := hC6; rwa [HQ2.out.2] at h⟩
  clear hR hC6 hW6 HST HBS HPZ HGS HBZ e2 hcq hfq hix
  generalize w4.heap.size = g at *
  generalize q.set i ((b ^^^ tn : Nat) : Int) = q' at *
  have HO : Aside0 (decide (q'.drop (p.length + 4 - 4) = tailL (sumN tab (q'.take (p.length + 4 - 4)))) = ((tn : Int) == 0) ∧ q'.take (p.length + 4 - 4) = p) := by
    rw [show p.length + 4 - 4 = p.length by omega, HPL.out.1]
    exact ⟨⟨HPL.out.2, rfl⟩⟩
  by_cases h0 : tn = 0
  · subst h0
    refine (open_long true tab T _ _ _ q' _ HT.out HQ6.out hc6 HQ2.out.1 (by omega) (by omega) HO.out.1).mono ?_
    rintro e w7 ⟨v7, rfl, ho7, hb7⟩
    simp only [if_true, HO.out.2] at ho7
    obtain ⟨X, dx, rfl, hdx, hC7⟩ := Kd.R_reads ho7
    have HB7 := Aside0.mk (below_step HB6.out hb7)
    have HP7 := Aside0.mk (Kd.C_below HP6.out hb7)
    have HX7 := Aside0.mk hC7
    clear ho7 hb7 hC7
    go_wp2_with fail
    refine (same_is true _ _ _ _ _ _ p p _ HX7.out hdx HP7.out hd (decide_eq_true rfl)).mono ?_
    rintro e w8 ⟨rfl, ⟨nd, rfl⟩⟩
    go_wp2
    go_ret
    exact ⟨rfl, pw_below_drewN HB7.out _⟩
  · have h1 : ((tn : Int) == 0) = false := by simpa using h0
    rw [h1] at HO
    refine (open_long false tab T _ _ _ q' _ HT.out HQ6.out hc6 HQ2.out.1 (by omega) (by omega) HO.out.1).mono ?_
    rintro e w7 ⟨v7, rfl, ho7, hb7⟩
    simp only [Bool.false_eq_true, if_false] at ho7
    obtain ⟨X, dx, rfl, hdx, hC7⟩ := Kd.R_reads ho7
    have HB7 := Aside0.mk (below_step HB6.out hb7)
    clear ho7 hb7 hC7
    rw [List.length_nil]
    go_wp2
    go_ret
    exact ⟨rfl, HB7.out⟩

end Go.Proofs.Ytadodibnjdeckaa
