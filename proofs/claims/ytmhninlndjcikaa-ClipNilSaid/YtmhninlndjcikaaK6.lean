/- The walk of ClipNil. -/
import Derived.Test.YtmhninlndjcikaaK5
namespace Go.Proofs.Ytmhninlndjcikaa
open Go.RowKit Go.Proofs.YtmhninlndjcikaaW.PrintWords Go.Proofs.YtmhninlndjcikaaW.PrintLast Go.Proofs.YtmhninlndjcikaaW.PrintMore
set_option linter.unusedVariables false
set_option linter.unusedSimpArgs false
attribute [local go_sem] max2_int max_two

set_option maxRecDepth 100000 in
set_option maxHeartbeats 8000000 in
theorem nil_walk (size : Int) (A : Option Addr) (len c : Nat) (l : List Int) (w : World) (hs : -9223372036854775808 ≤ size ∧ size < 9223372036854775808) (hr : (Kd.int .u8).C w A len l) (hc : len ≤ c) (hl : ∀ x ∈ l, 0 ≤ x ∧ x < 256) :
    Calls Try.prog 8 #[.int .i64 size, .slice A len c] w fun e w' => e = .returned (.bool true) ∧ Below w.heap.size w w' := by
  have HR := Aside0.mk hr
  have hm0 : ∀ w : World, (Instr.makeSlice 24 (.int .i64 64) (.int .i64 64)).run Try.prog w = .ok (.slice (some ⟨w.heap.size, 0, none⟩) 64 64) (w.alloc (.cells (row8 (List.replicate 64 0)) 5)) := fun w => make_u8 .i64 .i64 64 (by omega) w
  obtain ⟨zs, hzs⟩ : ∃ zs : List Int, List.replicate 64 0 = zs := ⟨_, rfl⟩
  rw [hzs] at hm0
  have hz64 : zs.length = 64 := by rw [← hzs]; simp
  have HZL := Aside0.mk hz64
  have HMK := Aside0.mk hm0
  clear hr hl hzs hz64 hm0
  go_enter Try.func8, Try.ntmps8
  go_wp2_with fail
  refine (awake_any _).mono ?_
  rintro e w1 ⟨rfl, hb1⟩
  have B1 := Aside0.mk hb1
  clear hb1
  go_wp2_with fail
  refine (cut_any A len c l 40 _ (Kd.C_below HR.out B1.out) hc (by omega)).mono ?_
  rintro e w3 ⟨v, rfl, ho, hb3⟩
  have B3 := Aside0.mk (below_step B1.out hb3)
  clear B1 hb3
  obtain ⟨q, hq⟩ : ∃ q, l.take (40 : Int).toNat = q := ⟨_, rfl⟩
  rw [hq] at ho
  have hql : q.length ≤ 40 := by rw [← hq, List.length_take]; exact Nat.min_le_left _ _
  obtain ⟨Q, d, rfl, hd, hC⟩ := Kd.R_reads ho
  have HC := Aside0.mk hC
  obtain ⟨ql, hqll⟩ : ∃ ql, q.length = ql := ⟨_, rfl⟩
  rw [hqll] at hd HC hql ⊢
  have HQL := Aside0.mk hqll
  clear ho hq hC hqll
  go_wp2_with fail
  refine (put_nil true true Q ql d _).mono ?_
  rintro e w4 ⟨rfl, hb4⟩
  have B4 := Aside0.mk (below_step B3.out hb4)
  have C4 := Aside0.mk (Kd.C_below HC.out hb4)
  clear B3 HC hb4
  go_wp2_with fail
  refine (clear_nil _).mono ?_
  rintro e w5 ⟨rfl, hb5⟩
  have B5 := Aside0.mk (below_step B4.out hb5)
  have C5 := Aside0.mk (Kd.C_below C4.out hb5)
  clear B4 C4 hb5
  have HS := Aside0.mk hs
  rcases want_cases size with hw | hw | ⟨dn, m, h1, h2, h3, h4, h5, h6, h7⟩ | ⟨dn, r, m, h1, h2, h2', h3, h3', h4, h5, h6, h6', h6m, h7⟩ | ⟨r, h1, h2, h3, h4, h5, h7⟩
  ·
    have d0 : decide ((0 : Int) ≤ size) = false := decide_eq_false (by omega)
    have d0' : ¬ (0 : Int) ≤ size := by omega
    have HCNT : Aside0 (∀ w, Calls Try.prog 12 #[.int .i64 size] w fun e w' => e = .returned (.int .i64 0) ∧ Below w.heap.size w w') := ⟨count_big size (.inl hw)⟩
    clear hs
    go_wp2_with fail
    clear d0 d0' hw
    refine (join_any _ 1 1 [q] _ (C_one_row rfl C5.out hd) (by omega) (by simp [HQL.out]; omega)).mono ?_
    rintro e w6 ⟨vm, rfl, hom, hb6⟩
    rw [show [q].flatten = q by simp] at hom
    obtain ⟨M, dm, hvm⟩ := Kd.R_slice hom
    rw [HQL.out] at hvm
    subst hvm
    have B5a := Aside0.mk (below_alloc B5.out (.cells #[.slice Q ql d] 24))
    have C5a := Aside0.mk (Kd.C_alloc C5.out (.cells #[.slice Q ql d] 24))
    have hB5s : w.heap.size ≤ (w5.alloc (.cells #[.slice Q ql d] 24)).heap.size := B5a.out.size
    generalize w5.alloc (.cells #[.slice Q ql d] 24) = W5 at *
    have B6 := Aside0.mk (below_step B5a.out hb6)
    obtain ⟨_, hdm, hCm⟩ := R_C hom
    have HOM : Aside0 ((Kd.int .u8).R 5 w6 W5.heap.size (fun _ => True) (.slice M ql dm) q) := ⟨hom⟩
    have HB6 := Aside0.mk hb6
    have HCM := Aside0.mk hCm
    clear B5 C5 hom hb6 hCm
    have HT := Aside0.mk (below_alloc (below_alloc (below_alloc (Below.refl w6.heap.size w6) (.cells #[.slice none 0 0, .bool false, .bool false] 37)) (.cells (row8 zs) 5)) (.cells #[.slice M ql dm, .slice (some ⟨w6.heap.size + 1, 0, none⟩) 64 64] 24))
    have K6 : Aside0 (Bk (((w6.alloc (.cells #[.slice none 0 0, .bool false, .bool false] 37)).alloc (.cells (row8 zs) 5)).alloc (.cells #[.slice M ql dm, .slice (some ⟨w6.heap.size + 1, 0, none⟩) 64 64] 24)) w6.heap.size w6.heap.size B0 (.slice none 0 0)) := ⟨⟨blk_alloc (blk_alloc (blk_new _ _) _) _, Kd.R_nil _ _ _ _ _⟩⟩
    have hz : ((w6.alloc (.cells #[.slice none 0 0, .bool false, .bool false] 37)).alloc (.cells (row8 zs) 5)).heap[w6.heap.size + 1]? = some (.cells (row8 zs) 5 (0, 0)) := by simpa using blk_new (w6.alloc (.cells #[.slice none 0 0, .bool false, .bool false] 37)) (.cells (row8 zs) 5)
    have hz2 : (((w6.alloc (.cells #[.slice none 0 0, .bool false, .bool false] 37)).alloc (.cells (row8 zs) 5)).alloc (.cells #[.slice M ql dm, .slice (some ⟨w6.heap.size + 1, 0, none⟩) 64 64] 24)).heap[w6.heap.size + 1 + 1]? = some (.cells #[.slice M ql dm, .slice (some ⟨w6.heap.size + 1, 0, none⟩) 64 64] 24 (0, 0)) := by simpa using blk_new ((w6.alloc (.cells #[.slice none 0 0, .bool false, .bool false] 37)).alloc (.cells (row8 zs) 5)) (.cells #[.slice M ql dm, .slice (some ⟨w6.heap.size + 1, 0, none⟩) 64 64] 24)
    have HTWO := Aside0.mk (C_of_two (e := 5) hz2 (Kd.C_below HCM.out HT.out) hdm (Row8.reads (blk_alloc hz (.cells #[.slice M ql dm, .slice (some ⟨w6.heap.size + 1, 0, none⟩) 64 64] 24)) HZL.out (by omega)) (Nat.le_refl 64))
    clear hz hz2
    have hm : ∀ w : World, (Instr.makeSlice 24 (.int .i64 64) (.int .i64 64)).run Try.prog w = .ok (.slice (some ⟨w.heap.size, 0, none⟩) 64 64) (w.alloc (.cells (row8 zs) 5)) := HMK.out
    go_wp2_with fail
    refine (join_any _ 2 2 [q, zs] _ HTWO.out (by omega) (by simp [HQL.out, HZL.out]; omega)).mono ?_
    rintro e w7 ⟨vj, rfl, hoj, hb7⟩
    clear hm
    obtain ⟨jq, hjq⟩ : ∃ jq, [q, zs].flatten = jq := ⟨_, rfl⟩
    have hjl : jq.length = ql + 64 := by rw [← hjq]; simp [HQL.out, HZL.out]
    rw [hjq] at hoj
    obtain ⟨J, dj, hvj⟩ := Kd.R_slice hoj
    subst hvj
    obtain ⟨jl, hjll⟩ : ∃ jl, jq.length = jl := ⟨_, rfl⟩
    rw [hjll] at hoj ⊢
    obtain ⟨_, hdj, hCj⟩ := R_C hoj
    have T7 := Aside0.mk (HT.out.trans (hb7.mono HT.out.size))
    have K7 := Aside0.mk (K6.out.below hb7)
    have HCJ := Aside0.mk hCj
    have HJQ := Aside0.mk (And.intro hjl hjll)
    clear hoj hb7 hCj HTWO HT K6 hjl hjll hjq
    generalize ((w6.alloc (.cells #[.slice none 0 0, .bool false, .bool false] 37)).alloc (.cells (row8 zs) 5)).alloc (.cells #[.slice M ql dm, .slice (some ⟨w6.heap.size + 1, 0, none⟩) 64 64] 24) = W7 at *
    go_wp2_with fail
    refine (cut_any J jl dj jq 64 _ HCJ.out hdj (by omega)).mono ?_
    rintro e w8 ⟨vc, rfl, hoc, hb8⟩
    obtain ⟨dq, hdq⟩ : ∃ dq, jq.take (64 : Int).toNat = dq := ⟨_, rfl⟩
    have hdl : dq.length = 64 := by rw [← hdq, List.length_take]; show min 64 jq.length = 64; have := HJQ.out.1; omega
    rw [hdq] at hoc
    obtain ⟨D, dd, hvc⟩ := Kd.R_slice hoc
    rw [hdl] at hvc
    subst hvc
    obtain ⟨_, hdd, hCc⟩ := R_C hoc
    have T8 := Aside0.mk (T7.out.trans (hb8.mono T7.out.size))
    have K8 := Aside0.mk (K7.out.below hb8)
    have hput : putN B0 ⟨true, false, dq⟩ = (⟨dq, true, false⟩, ([], false, 0)) := by
      unfold putN B0
      rw [if_neg (by simp), if_neg (by simp [hdl]), if_neg (by simp [hdl]), if_neg (by simp)]
      rfl
    have key := put_any w6.heap.size w6.heap.size B0 (.slice none 0 0) ⟨true, false, dq⟩ D dd w8 K8.out (Nat.le_refl _) (by simp [B0]) (by show (Kd.int .u8).C w8 D dq.length dq; rw [hdl]; exact hCc) (by show dq.length ≤ dd; rw [hdl]; exact hdd)
    rw [hput] at key
    simp only [hdl] at key
    have KEY := Aside0.mk key
    have HDL := Aside0.mk hdl
    clear hoc hb8 hCc T7 K7 hput key hdq hdl
    go_wp2_with fail
    refine KEY.out.mono ?_
    rintro e w9 ⟨vo, v9, rfl, hv, hp⟩
    obtain ⟨Qo, do_, rfl⟩ := Kd.R_slice hv
    have T9 := Aside0.mk (T8.out.trans hp.2.2.2)
    have K9 := Aside0.mk hp.1
    clear hv hp KEY K8 T8
    have HCM9 := Aside0.mk (Kd.C_below HCM.out T9.out)
    go_wp2_with fail
    refine (split_any M ql dm q _ HCM9.out hdm (by omega)).mono ?_
    rintro e w10 ⟨vL, rfl, hoL, hb10⟩
    obtain ⟨LQ, dL, hvL⟩ := Kd.R_slice hoL
    have hL1 : (pieces q).length = 1 := by rw [pieces_length, HQL.out]; unfold countN; omega
    rw [hL1] at hvL
    subst hvL
    have HOL : Aside0 (kP.R 31 w10 w9.heap.size (fun k => w9.heap.size ≤ k) (.slice LQ 1 dL) (pieces q)) := ⟨Kd.R_mono (Kd.R_bound hoL) (fun k hk => hk.2.1)⟩
    have K10 := Aside0.mk (K9.out.below hb10)
    have HM10 := Aside0.mk (Kd.R_below (Kd.R_below HOM.out T9.out) hb10)
    have B10 : Aside0 (Below W5.heap.size W5 w10) := ⟨(HB6.out.trans (T9.out.mono HB6.out.size)).trans (hb10.mono (Nat.le_trans HB6.out.size T9.out.size))⟩
    have HSZ := Aside0.mk (And.intro HB6.out.size T9.out.size)
    have HOWN : Aside0 (0 < ql → ∃ gm, M = some ⟨gm, 0, none⟩ ∧ W5.heap.size ≤ gm ∧ gm < w6.heap.size ∧ Some8 w10 gm ql) := ⟨fun h => by
      obtain ⟨gm, h1, h2, h3, _⟩ := own8 HOM.out h
      obtain ⟨gm', h1', _, _, h4⟩ := own8 HM10.out h
      rw [h1] at h1'
      obtain rfl : gm = gm' := by simpa using h1'
      exact ⟨gm, h1, h2, h3, h4⟩⟩
    have HL1 := Aside0.mk hL1
    clear hoL hb10 K9 HOM HM10 HCM9 HCM T9 HB6 hL1 hB5s
    go_wp2_with fail
    go_loopw [64] (fun v64 wr => ∃ i : Nat, i ≤ ql ∧ v64 = .int .i64 i ∧ Aside0 ((0 < ql → ∃ gm, M = some ⟨gm, 0, none⟩ ∧ W5.heap.size ≤ gm ∧ gm < w6.heap.size ∧ Some8 wr gm ql) ∧ kP.R 31 wr w9.heap.size (fun k => w9.heap.size ≤ k) (.slice LQ 1 dL) (pieces q) ∧ Bk wr w6.heap.size w6.heap.size ⟨dq, true, false⟩ v9 ∧ Below W5.heap.size W5 wr)) (fun v64 _ => ql - (intOf v64).toNat)
    case atStart => exact ⟨0, by omega, rfl, ⟨HOWN.out, HOL.out, K10.out, B10.out⟩⟩
    case round =>
      clear HOWN HOL K10 B10
      obtain ⟨i, hi, rfl, H⟩ := hrel
      by_cases hlt : i < ql
      · obtain ⟨gm, hM, hg1, hg2, h8⟩ := H.out.1 (by omega)
        obtain ⟨x, x0, x1⟩ := h8.cell hlt
        have hsz := HSZ.out
        have H2 := fun y => Aside0.mk (And.intro (h8.set i y) (And.intro (Kd.R_far (p := ⟨gm, i, none⟩) H.out.2.1 (fun k hk => by show k ≠ gm; omega) (.int .u8 y)) (And.intro (show Bk (wr.setCell ⟨gm, i, none⟩ (.int .u8 y)) w6.heap.size w6.heap.size ⟨dq, true, false⟩ v9 from ⟨blk_far H.out.2.2.1.1 (by simp; omega) _, Kd.R_mono (Kd.R_far (p := ⟨gm, i, none⟩) (Kd.R_mono (Kd.R_bound H.out.2.2.1.2) (ok' := fun k => k ≠ w6.heap.size ∧ w6.heap.size ≤ k) (fun k hk => ⟨hk.1, hk.2.1⟩)) (fun k hk => by show k ≠ gm; omega) _) (fun k hk => hk.1)⟩) (H.out.2.2.2.setCell (p := ⟨gm, i, none⟩) hg1 (.int .u8 y)))))
        have HG := Aside0.mk (And.intro hg1 hg2)
        subst hM
        clear h8 hsz hg1 hg2
        go_wp2_with fail
        go_roundw
        case rel => exact ⟨i + 1, by omega, by go_num, ⟨fun _ => ⟨gm, rfl, HG.out.1, HG.out.2, (H2 _).out.1⟩, (H2 _).out.2.1, (H2 _).out.2.2.1, (H2 _).out.2.2.2⟩⟩
        case measure => simp [intOf]; omega
      · have d9 : decide ((i : Int) < ql) = false := decide_eq_false (by omega)
        have d9' : decide (i < ql) = false := decide_eq_false hlt
        have hRL := Aside0.mk H.out.2.1
        have hK := Aside0.mk H.out.2.2.1
        have hB := Aside0.mk (B5a.out.trans (H.out.2.2.2.mono B5a.out.size))
        have hCq := Aside0.mk (Kd.C_below C5a.out H.out.2.2.2)
        clear H
        go_wp2_with fail
        refine (open_nil _).mono ?_
        rintro e u1 ⟨rfl, hu1⟩
        have a1 := Aside0.mk (Kd.R_below hRL.out hu1)
        have a2 := Aside0.mk (hK.out.below hu1)
        have a3 := Aside0.mk (below_step hB.out hu1)
        have a4 := Aside0.mk (Kd.C_below hCq.out hu1)
        clear hRL hK hB hCq hu1
        go_wp2_with fail
        refine (held_nil _).mono ?_
        rintro e u2 ⟨rfl, hu2⟩
        have b1 := Aside0.mk (Kd.R_below a1.out hu2)
        have b2 := Aside0.mk (a2.out.below hu2)
        have b3 := Aside0.mk (below_step a3.out hu2)
        have b4 := Aside0.mk (Kd.C_below a4.out hu2)
        clear a1 a2 a3 a4 hu2
        go_wp2_with fail
        refine (HCNT.out _).mono ?_
        rintro e u3 ⟨rfl, hu3⟩
        have c1 := Aside0.mk (Kd.R_below b1.out hu3)
        have c2 := Aside0.mk (b2.out.below hu3)
        have c3 := Aside0.mk (below_step b3.out hu3)
        have c4 := Aside0.mk (Kd.C_below b4.out hu3)
        clear b1 b2 b3 b4 hu3
        go_wp2_with fail
        refine (held_any w6.heap.size w6.heap.size ⟨dq, true, false⟩ v9 _ c2.out).mono ?_
        rintro e u4 ⟨rfl, hu4⟩
        rw [show ((⟨dq, true, false⟩ : Bs).p.length : Int) = 64 from by show ((dq.length : Nat) : Int) = 64; rw [HDL.out]; rfl]
        have f1 := Aside0.mk (Kd.R_below c1.out hu4)
        have f3 := Aside0.mk (below_step c3.out hu4)
        have f4 := Aside0.mk (Kd.C_below c4.out hu4)
        clear c1 c2 c3 c4 hu4
        obtain ⟨_, hdL, hCL⟩ := R_C f1.out
        obtain ⟨ad, B, cB, hLQ, y0, y1, y2, hyc, hyd⟩ := piece_at hCL 0 (by rw [HL1.out]; omega)
        have hx : (pieces q)[0]'(by rw [HL1.out]; omega) = pieceN q (countN q.length) 0 := pieces_get q _
        have hxd : ((pieces q)[0]'(by rw [HL1.out]; omega)).d = q := by
          rw [hx]
          show (q.drop (64 * 0)).take 64 = q
          simp only [Nat.mul_zero, List.drop_zero]
          exact List.take_of_length_le (by rw [HQL.out]; omega)
        rw [hxd, HQL.out] at y2 hyc hyd
        have HYD := Aside0.mk hyd
        subst hLQ
        rw [Nat.zero_mul] at y2
        simp [Addr.add] at y2
        clear hCL y0 y1 hx hxd hyd
        go_wp2_with fail
        refine (same_is true _ _ _ _ _ _ _ _ _ HYD.out hyc f4.out hd (by simp)).mono ?_
        rintro e u5 ⟨rfl, nd, rfl⟩
        go_wp2_with fail
        go_ret
        exact ⟨rfl, pw_below_drewN f3.out nd⟩
  ·
    have d0 : decide ((0 : Int) ≤ size) = true := decide_eq_true (by omega)
    have d1 : decide (size ≤ 1024) = false := decide_eq_false (by omega)
    have d0' : (0 : Int) ≤ size := by omega
    have HCNT : Aside0 (∀ w, Calls Try.prog 12 #[.int .i64 size] w fun e w' => e = .returned (.int .i64 0) ∧ Below w.heap.size w w') := ⟨count_big size (.inr hw)⟩
    clear hs
    go_wp2_with fail
    clear d0 d0' hw d1
    refine (join_any _ 1 1 [q] _ (C_one_row rfl C5.out hd) (by omega) (by simp [HQL.out]; omega)).mono ?_
    rintro e w6 ⟨vm, rfl, hom, hb6⟩
    rw [show [q].flatten = q by simp] at hom
    obtain ⟨M, dm, hvm⟩ := Kd.R_slice hom
    rw [HQL.out] at hvm
    subst hvm
    have B5a := Aside0.mk (below_alloc B5.out (.cells #[.slice Q ql d] 24))
    have C5a := Aside0.mk (Kd.C_alloc C5.out (.cells #[.slice Q ql d] 24))
    have hB5s : w.heap.size ≤ (w5.alloc (.cells #[.slice Q ql d] 24)).heap.size := B5a.out.size
    generalize w5.alloc (.cells #[.slice Q ql d] 24) = W5 at *
    have B6 := Aside0.mk (below_step B5a.out hb6)
    obtain ⟨_, hdm, hCm⟩ := R_C hom
    have HOM : Aside0 ((Kd.int .u8).R 5 w6 W5.heap.size (fun _ => True) (.slice M ql dm) q) := ⟨hom⟩
    have HB6 := Aside0.mk hb6
    have HCM := Aside0.mk hCm
    clear B5 C5 hom hb6 hCm
    have HT := Aside0.mk (below_alloc (below_alloc (below_alloc (Below.refl w6.heap.size w6) (.cells #[.slice none 0 0, .bool false, .bool false] 37)) (.cells (row8 zs) 5)) (.cells #[.slice M ql dm, .slice (some ⟨w6.heap.size + 1, 0, none⟩) 64 64] 24))
    have K6 : Aside0 (Bk (((w6.alloc (.cells #[.slice none 0 0, .bool false, .bool false] 37)).alloc (.cells (row8 zs) 5)).alloc (.cells #[.slice M ql dm, .slice (some ⟨w6.heap.size + 1, 0, none⟩) 64 64] 24)) w6.heap.size w6.heap.size B0 (.slice none 0 0)) := ⟨⟨blk_alloc (blk_alloc (blk_new _ _) _) _, Kd.R_nil _ _ _ _ _⟩⟩
    have hz : ((w6.alloc (.cells #[.slice none 0 0, .bool false, .bool false] 37)).alloc (.cells (row8 zs) 5)).heap[w6.heap.size + 1]? = some (.cells (row8 zs) 5 (0, 0)) := by simpa using blk_new (w6.alloc (.cells #[.slice none 0 0, .bool false, .bool false] 37)) (.cells (row8 zs) 5)
    have hz2 : (((w6.alloc (.cells #[.slice none 0 0, .bool false, .bool false] 37)).alloc (.cells (row8 zs) 5)).alloc (.cells #[.slice M ql dm, .slice (some ⟨w6.heap.size + 1, 0, none⟩) 64 64] 24)).heap[w6.heap.size + 1 + 1]? = some (.cells #[.slice M ql dm, .slice (some ⟨w6.heap.size + 1, 0, none⟩) 64 64] 24 (0, 0)) := by simpa using blk_new ((w6.alloc (.cells #[.slice none 0 0, .bool false, .bool false] 37)).alloc (.cells (row8 zs) 5)) (.cells #[.slice M ql dm, .slice (some ⟨w6.heap.size + 1, 0, none⟩) 64 64] 24)
    have HTWO := Aside0.mk (C_of_two (e := 5) hz2 (Kd.C_below HCM.out HT.out) hdm (Row8.reads (blk_alloc hz (.cells #[.slice M ql dm, .slice (some ⟨w6.heap.size + 1, 0, none⟩) 64 64] 24)) HZL.out (by omega)) (Nat.le_refl 64))
    clear hz hz2
    have hm : ∀ w : World, (Instr.makeSlice 24 (.int .i64 64) (.int .i64 64)).run Try.prog w = .ok (.slice (some ⟨w.heap.size, 0, none⟩) 64 64) (w.alloc (.cells (row8 zs) 5)) := HMK.out
    go_wp2_with fail
    refine (join_any _ 2 2 [q, zs] _ HTWO.out (by omega) (by simp [HQL.out, HZL.out]; omega)).mono ?_
    rintro e w7 ⟨vj, rfl, hoj, hb7⟩
    clear hm
    obtain ⟨jq, hjq⟩ : ∃ jq, [q, zs].flatten = jq := ⟨_, rfl⟩
    have hjl : jq.length = ql + 64 := by rw [← hjq]; simp [HQL.out, HZL.out]
    rw [hjq] at hoj
    obtain ⟨J, dj, hvj⟩ := Kd.R_slice hoj
    subst hvj
    obtain ⟨jl, hjll⟩ : ∃ jl, jq.length = jl := ⟨_, rfl⟩
    rw [hjll] at hoj ⊢
    obtain ⟨_, hdj, hCj⟩ := R_C hoj
    have T7 := Aside0.mk (HT.out.trans (hb7.mono HT.out.size))
    have K7 := Aside0.mk (K6.out.below hb7)
    have HCJ := Aside0.mk hCj
    have HJQ := Aside0.mk (And.intro hjl hjll)
    clear hoj hb7 hCj HTWO HT K6 hjl hjll hjq
    generalize ((w6.alloc (.cells #[.slice none 0 0, .bool false, .bool false] 37)).alloc (.cells (row8 zs) 5)).alloc (.cells #[.slice M ql dm, .slice (some ⟨w6.heap.size + 1, 0, none⟩) 64 64] 24) = W7 at *
    go_wp2_with fail
    refine (cut_any J jl dj jq 64 _ HCJ.out hdj (by omega)).mono ?_
    rintro e w8 ⟨vc, rfl, hoc, hb8⟩
    obtain ⟨dq, hdq⟩ : ∃ dq, jq.take (64 : Int).toNat = dq := ⟨_, rfl⟩
    have hdl : dq.length = 64 := by rw [← hdq, List.length_take]; show min 64 jq.length = 64; have := HJQ.out.1; omega
    rw [hdq] at hoc
    obtain ⟨D, dd, hvc⟩ := Kd.R_slice hoc
    rw [hdl] at hvc
    subst hvc
    obtain ⟨_, hdd, hCc⟩ := R_C hoc
    have T8 := Aside0.mk (T7.out.trans (hb8.mono T7.out.size))
    have K8 := Aside0.mk (K7.out.below hb8)
    have hput : putN B0 ⟨true, false, dq⟩ = (⟨dq, true, false⟩, ([], false, 0)) := by
      unfold putN B0
      rw [if_neg (by simp), if_neg (by simp [hdl]), if_neg (by simp [hdl]), if_neg (by simp)]
      rfl
    have key := put_any w6.heap.size w6.heap.size B0 (.slice none 0 0) ⟨true, false, dq⟩ D dd w8 K8.out (Nat.le_refl _) (by simp [B0]) (by show (Kd.int .u8).C w8 D dq.length dq; rw [hdl]; exact hCc) (by show dq.length ≤ dd; rw [hdl]; exact hdd)
    rw [hput] at key
    simp only [hdl] at key
    have KEY := Aside0.mk key
    have HDL := Aside0.mk hdl
    clear hoc hb8 hCc T7 K7 hput key hdq hdl
    go_wp2_with fail
    refine KEY.out.mono ?_
    rintro e w9 ⟨vo, v9, rfl, hv, hp⟩
    obtain ⟨Qo, do_, rfl⟩ := Kd.R_slice hv
    have T9 := Aside0.mk (T8.out.trans hp.2.2.2)
    have K9 := Aside0.mk hp.1
    clear hv hp KEY K8 T8
    have HCM9 := Aside0.mk (Kd.C_below HCM.out T9.out)
    go_wp2_with fail
    refine (split_any M ql dm q _ HCM9.out hdm (by omega)).mono ?_
    rintro e w10 ⟨vL, rfl, hoL, hb10⟩
    obtain ⟨LQ, dL, hvL⟩ := Kd.R_slice hoL
    have hL1 : (pieces q).length = 1 := by rw [pieces_length, HQL.out]; unfold countN; omega
    rw [hL1] at hvL
    subst hvL
    have HOL : Aside0 (kP.R 31 w10 w9.heap.size (fun k => w9.heap.size ≤ k) (.slice LQ 1 dL) (pieces q)) := ⟨Kd.R_mono (Kd.R_bound hoL) (fun k hk => hk.2.1)⟩
    have K10 := Aside0.mk (K9.out.below hb10)
    have HM10 := Aside0.mk (Kd.R_below (Kd.R_below HOM.out T9.out) hb10)
    have B10 : Aside0 (Below W5.heap.size W5 w10) := ⟨(HB6.out.trans (T9.out.mono HB6.out.size)).trans (hb10.mono (Nat.le_trans HB6.out.size T9.out.size))⟩
    have HSZ := Aside0.mk (And.intro HB6.out.size T9.out.size)
    have HOWN : Aside0 (0 < ql → ∃ gm, M = some ⟨gm, 0, none⟩ ∧ W5.heap.size ≤ gm ∧ gm < w6.heap.size ∧ Some8 w10 gm ql) := ⟨fun h => by
      obtain ⟨gm, h1, h2, h3, _⟩ := own8 HOM.out h
      obtain ⟨gm', h1', _, _, h4⟩ := own8 HM10.out h
      rw [h1] at h1'
      obtain rfl : gm = gm' := by simpa using h1'
      exact ⟨gm, h1, h2, h3, h4⟩⟩
    have HL1 := Aside0.mk hL1
    clear hoL hb10 K9 HOM HM10 HCM9 HCM T9 HB6 hL1 hB5s
    go_wp2_with fail
    go_loopw [64] (fun v64 wr => ∃ i : Nat, i ≤ ql ∧ v64 = .int .i64 i ∧ Aside0 ((0 < ql → ∃ gm, M = some ⟨gm, 0, none⟩ ∧ W5.heap.size ≤ gm ∧ gm < w6.heap.size ∧ Some8 wr gm ql) ∧ kP.R 31 wr w9.heap.size (fun k => w9.heap.size ≤ k) (.slice LQ 1 dL) (pieces q) ∧ Bk wr w6.heap.size w6.heap.size ⟨dq, true, false⟩ v9 ∧ Below W5.heap.size W5 wr)) (fun v64 _ => ql - (intOf v64).toNat)
    case atStart => exact ⟨0, by omega, rfl, ⟨HOWN.out, HOL.out, K10.out, B10.out⟩⟩
    case round =>
      clear HOWN HOL K10 B10
      obtain ⟨i, hi, rfl, H⟩ := hrel
      by_cases hlt : i < ql
      · obtain ⟨gm, hM, hg1, hg2, h8⟩ := H.out.1 (by omega)
        obtain ⟨x, x0, x1⟩ := h8.cell hlt
        have hsz := HSZ.out
        have H2 := fun y => Aside0.mk (And.intro (h8.set i y) (And.intro (Kd.R_far (p := ⟨gm, i, none⟩) H.out.2.1 (fun k hk => by show k ≠ gm; omega) (.int .u8 y)) (And.intro (show Bk (wr.setCell ⟨gm, i, none⟩ (.int .u8 y)) w6.heap.size w6.heap.size ⟨dq, true, false⟩ v9 from ⟨blk_far H.out.2.2.1.1 (by simp; omega) _, Kd.R_mono (Kd.R_far (p := ⟨gm, i, none⟩) (Kd.R_mono (Kd.R_bound H.out.2.2.1.2) (ok' := fun k => k ≠ w6.heap.size ∧ w6.heap.size ≤ k) (fun k hk => ⟨hk.1, hk.2.1⟩)) (fun k hk => by show k ≠ gm; omega) _) (fun k hk => hk.1)⟩) (H.out.2.2.2.setCell (p := ⟨gm, i, none⟩) hg1 (.int .u8 y)))))
        have HG := Aside0.mk (And.intro hg1 hg2)
        subst hM
        clear h8 hsz hg1 hg2
        go_wp2_with fail
        go_roundw
        case rel => exact ⟨i + 1, by omega, by go_num, ⟨fun _ => ⟨gm, rfl, HG.out.1, HG.out.2, (H2 _).out.1⟩, (H2 _).out.2.1, (H2 _).out.2.2.1, (H2 _).out.2.2.2⟩⟩
        case measure => simp [intOf]; omega
      · have d9 : decide ((i : Int) < ql) = false := decide_eq_false (by omega)
        have d9' : decide (i < ql) = false := decide_eq_false hlt
        have hRL := Aside0.mk H.out.2.1
        have hK := Aside0.mk H.out.2.2.1
        have hB := Aside0.mk (B5a.out.trans (H.out.2.2.2.mono B5a.out.size))
        have hCq := Aside0.mk (Kd.C_below C5a.out H.out.2.2.2)
        clear H
        go_wp2_with fail
        refine (open_nil _).mono ?_
        rintro e u1 ⟨rfl, hu1⟩
        have a1 := Aside0.mk (Kd.R_below hRL.out hu1)
        have a2 := Aside0.mk (hK.out.below hu1)
        have a3 := Aside0.mk (below_step hB.out hu1)
        have a4 := Aside0.mk (Kd.C_below hCq.out hu1)
        clear hRL hK hB hCq hu1
        go_wp2_with fail
        refine (held_nil _).mono ?_
        rintro e u2 ⟨rfl, hu2⟩
        have b1 := Aside0.mk (Kd.R_below a1.out hu2)
        have b2 := Aside0.mk (a2.out.below hu2)
        have b3 := Aside0.mk (below_step a3.out hu2)
        have b4 := Aside0.mk (Kd.C_below a4.out hu2)
        clear a1 a2 a3 a4 hu2
        go_wp2_with fail
        refine (HCNT.out _).mono ?_
        rintro e u3 ⟨rfl, hu3⟩
        have c1 := Aside0.mk (Kd.R_below b1.out hu3)
        have c2 := Aside0.mk (b2.out.below hu3)
        have c3 := Aside0.mk (below_step b3.out hu3)
        have c4 := Aside0.mk (Kd.C_below b4.out hu3)
        clear b1 b2 b3 b4 hu3
        go_wp2_with fail
        refine (held_any w6.heap.size w6.heap.size ⟨dq, true, false⟩ v9 _ c2.out).mono ?_
        rintro e u4 ⟨rfl, hu4⟩
        rw [show ((⟨dq, true, false⟩ : Bs).p.length : Int) = 64 from by show ((dq.length : Nat) : Int) = 64; rw [HDL.out]; rfl]
        have f1 := Aside0.mk (Kd.R_below c1.out hu4)
        have f3 := Aside0.mk (below_step c3.out hu4)
        have f4 := Aside0.mk (Kd.C_below c4.out hu4)
        clear c1 c2 c3 c4 hu4
        obtain ⟨_, hdL, hCL⟩ := R_C f1.out
        obtain ⟨ad, B, cB, hLQ, y0, y1, y2, hyc, hyd⟩ := piece_at hCL 0 (by rw [HL1.out]; omega)
        have hx : (pieces q)[0]'(by rw [HL1.out]; omega) = pieceN q (countN q.length) 0 := pieces_get q _
        have hxd : ((pieces q)[0]'(by rw [HL1.out]; omega)).d = q := by
          rw [hx]
          show (q.drop (64 * 0)).take 64 = q
          simp only [Nat.mul_zero, List.drop_zero]
          exact List.take_of_length_le (by rw [HQL.out]; omega)
        rw [hxd, HQL.out] at y2 hyc hyd
        have HYD := Aside0.mk hyd
        subst hLQ
        rw [Nat.zero_mul] at y2
        simp [Addr.add] at y2
        clear hCL y0 y1 hx hxd hyd
        go_wp2_with fail
        refine (same_is true _ _ _ _ _ _ _ _ _ HYD.out hyc f4.out hd (by simp)).mono ?_
        rintro e u5 ⟨rfl, nd, rfl⟩
        go_wp2_with fail
        go_ret
        exact ⟨rfl, pw_below_drewN f3.out nd⟩
  ·
    have d0 : decide ((0 : Int) ≤ size) = true := decide_eq_true (by omega)
    have d1 : decide (size ≤ 1024) = true := decide_eq_true (by omega)
    have d0' : (0 : Int) ≤ size := by omega
    have d1' : size ≤ 1024 := by omega
    have HCNT : Aside0 (∀ w, Calls Try.prog 12 #[.int .i64 size] w fun e w' => e = .returned (.int .i64 m) ∧ Below w.heap.size w w') := ⟨fun w => by
      have := count_any (64 * dn) (by omega) w
      rw [h7, ← h1] at this
      exact this⟩
    clear hs h1 h7
    go_wp2_with fail
    clear d0 d0' d1 d1' h2 h3 h4 h5 h6
    refine (join_any _ 1 1 [q] _ (C_one_row rfl C5.out hd) (by omega) (by simp [HQL.out]; omega)).mono ?_
    rintro e w6 ⟨vm, rfl, hom, hb6⟩
    rw [show [q].flatten = q by simp] at hom
    obtain ⟨M, dm, hvm⟩ := Kd.R_slice hom
    rw [HQL.out] at hvm
    subst hvm
    have B5a := Aside0.mk (below_alloc B5.out (.cells #[.slice Q ql d] 24))
    have C5a := Aside0.mk (Kd.C_alloc C5.out (.cells #[.slice Q ql d] 24))
    have hB5s : w.heap.size ≤ (w5.alloc (.cells #[.slice Q ql d] 24)).heap.size := B5a.out.size
    generalize w5.alloc (.cells #[.slice Q ql d] 24) = W5 at *
    have B6 := Aside0.mk (below_step B5a.out hb6)
    obtain ⟨_, hdm, hCm⟩ := R_C hom
    have HOM : Aside0 ((Kd.int .u8).R 5 w6 W5.heap.size (fun _ => True) (.slice M ql dm) q) := ⟨hom⟩
    have HB6 := Aside0.mk hb6
    have HCM := Aside0.mk hCm
    clear B5 C5 hom hb6 hCm
    have HT := Aside0.mk (below_alloc (below_alloc (below_alloc (Below.refl w6.heap.size w6) (.cells #[.slice none 0 0, .bool false, .bool false] 37)) (.cells (row8 zs) 5)) (.cells #[.slice M ql dm, .slice (some ⟨w6.heap.size + 1, 0, none⟩) 64 64] 24))
    have K6 : Aside0 (Bk (((w6.alloc (.cells #[.slice none 0 0, .bool false, .bool false] 37)).alloc (.cells (row8 zs) 5)).alloc (.cells #[.slice M ql dm, .slice (some ⟨w6.heap.size + 1, 0, none⟩) 64 64] 24)) w6.heap.size w6.heap.size B0 (.slice none 0 0)) := ⟨⟨blk_alloc (blk_alloc (blk_new _ _) _) _, Kd.R_nil _ _ _ _ _⟩⟩
    have hz : ((w6.alloc (.cells #[.slice none 0 0, .bool false, .bool false] 37)).alloc (.cells (row8 zs) 5)).heap[w6.heap.size + 1]? = some (.cells (row8 zs) 5 (0, 0)) := by simpa using blk_new (w6.alloc (.cells #[.slice none 0 0, .bool false, .bool false] 37)) (.cells (row8 zs) 5)
    have hz2 : (((w6.alloc (.cells #[.slice none 0 0, .bool false, .bool false] 37)).alloc (.cells (row8 zs) 5)).alloc (.cells #[.slice M ql dm, .slice (some ⟨w6.heap.size + 1, 0, none⟩) 64 64] 24)).heap[w6.heap.size + 1 + 1]? = some (.cells #[.slice M ql dm, .slice (some ⟨w6.heap.size + 1, 0, none⟩) 64 64] 24 (0, 0)) := by simpa using blk_new ((w6.alloc (.cells #[.slice none 0 0, .bool false, .bool false] 37)).alloc (.cells (row8 zs) 5)) (.cells #[.slice M ql dm, .slice (some ⟨w6.heap.size + 1, 0, none⟩) 64 64] 24)
    have HTWO := Aside0.mk (C_of_two (e := 5) hz2 (Kd.C_below HCM.out HT.out) hdm (Row8.reads (blk_alloc hz (.cells #[.slice M ql dm, .slice (some ⟨w6.heap.size + 1, 0, none⟩) 64 64] 24)) HZL.out (by omega)) (Nat.le_refl 64))
    clear hz hz2
    have hm : ∀ w : World, (Instr.makeSlice 24 (.int .i64 64) (.int .i64 64)).run Try.prog w = .ok (.slice (some ⟨w.heap.size, 0, none⟩) 64 64) (w.alloc (.cells (row8 zs) 5)) := HMK.out
    go_wp2_with fail
    refine (join_any _ 2 2 [q, zs] _ HTWO.out (by omega) (by simp [HQL.out, HZL.out]; omega)).mono ?_
    rintro e w7 ⟨vj, rfl, hoj, hb7⟩
    clear hm
    obtain ⟨jq, hjq⟩ : ∃ jq, [q, zs].flatten = jq := ⟨_, rfl⟩
    have hjl : jq.length = ql + 64 := by rw [← hjq]; simp [HQL.out, HZL.out]
    rw [hjq] at hoj
    obtain ⟨J, dj, hvj⟩ := Kd.R_slice hoj
    subst hvj
    obtain ⟨jl, hjll⟩ : ∃ jl, jq.length = jl := ⟨_, rfl⟩
    rw [hjll] at hoj ⊢
    obtain ⟨_, hdj, hCj⟩ := R_C hoj
    have T7 := Aside0.mk (HT.out.trans (hb7.mono HT.out.size))
    have K7 := Aside0.mk (K6.out.below hb7)
    have HCJ := Aside0.mk hCj
    have HJQ := Aside0.mk (And.intro hjl hjll)
    clear hoj hb7 hCj HTWO HT K6 hjl hjll hjq
    generalize ((w6.alloc (.cells #[.slice none 0 0, .bool false, .bool false] 37)).alloc (.cells (row8 zs) 5)).alloc (.cells #[.slice M ql dm, .slice (some ⟨w6.heap.size + 1, 0, none⟩) 64 64] 24) = W7 at *
    go_wp2_with fail
    refine (cut_any J jl dj jq 64 _ HCJ.out hdj (by omega)).mono ?_
    rintro e w8 ⟨vc, rfl, hoc, hb8⟩
    obtain ⟨dq, hdq⟩ : ∃ dq, jq.take (64 : Int).toNat = dq := ⟨_, rfl⟩
    have hdl : dq.length = 64 := by rw [← hdq, List.length_take]; show min 64 jq.length = 64; have := HJQ.out.1; omega
    rw [hdq] at hoc
    obtain ⟨D, dd, hvc⟩ := Kd.R_slice hoc
    rw [hdl] at hvc
    subst hvc
    obtain ⟨_, hdd, hCc⟩ := R_C hoc
    have T8 := Aside0.mk (T7.out.trans (hb8.mono T7.out.size))
    have K8 := Aside0.mk (K7.out.below hb8)
    have hput : putN B0 ⟨true, false, dq⟩ = (⟨dq, true, false⟩, ([], false, 0)) := by
      unfold putN B0
      rw [if_neg (by simp), if_neg (by simp [hdl]), if_neg (by simp [hdl]), if_neg (by simp)]
      rfl
    have key := put_any w6.heap.size w6.heap.size B0 (.slice none 0 0) ⟨true, false, dq⟩ D dd w8 K8.out (Nat.le_refl _) (by simp [B0]) (by show (Kd.int .u8).C w8 D dq.length dq; rw [hdl]; exact hCc) (by show dq.length ≤ dd; rw [hdl]; exact hdd)
    rw [hput] at key
    simp only [hdl] at key
    have KEY := Aside0.mk key
    have HDL := Aside0.mk hdl
    clear hoc hb8 hCc T7 K7 hput key hdq hdl
    go_wp2_with fail
    refine KEY.out.mono ?_
    rintro e w9 ⟨vo, v9, rfl, hv, hp⟩
    obtain ⟨Qo, do_, rfl⟩ := Kd.R_slice hv
    have T9 := Aside0.mk (T8.out.trans hp.2.2.2)
    have K9 := Aside0.mk hp.1
    clear hv hp KEY K8 T8
    have HCM9 := Aside0.mk (Kd.C_below HCM.out T9.out)
    go_wp2_with fail
    refine (split_any M ql dm q _ HCM9.out hdm (by omega)).mono ?_
    rintro e w10 ⟨vL, rfl, hoL, hb10⟩
    obtain ⟨LQ, dL, hvL⟩ := Kd.R_slice hoL
    have hL1 : (pieces q).length = 1 := by rw [pieces_length, HQL.out]; unfold countN; omega
    rw [hL1] at hvL
    subst hvL
    have HOL : Aside0 (kP.R 31 w10 w9.heap.size (fun k => w9.heap.size ≤ k) (.slice LQ 1 dL) (pieces q)) := ⟨Kd.R_mono (Kd.R_bound hoL) (fun k hk => hk.2.1)⟩
    have K10 := Aside0.mk (K9.out.below hb10)
    have HM10 := Aside0.mk (Kd.R_below (Kd.R_below HOM.out T9.out) hb10)
    have B10 : Aside0 (Below W5.heap.size W5 w10) := ⟨(HB6.out.trans (T9.out.mono HB6.out.size)).trans (hb10.mono (Nat.le_trans HB6.out.size T9.out.size))⟩
    have HSZ := Aside0.mk (And.intro HB6.out.size T9.out.size)
    have HOWN : Aside0 (0 < ql → ∃ gm, M = some ⟨gm, 0, none⟩ ∧ W5.heap.size ≤ gm ∧ gm < w6.heap.size ∧ Some8 w10 gm ql) := ⟨fun h => by
      obtain ⟨gm, h1, h2, h3, _⟩ := own8 HOM.out h
      obtain ⟨gm', h1', _, _, h4⟩ := own8 HM10.out h
      rw [h1] at h1'
      obtain rfl : gm = gm' := by simpa using h1'
      exact ⟨gm, h1, h2, h3, h4⟩⟩
    have HL1 := Aside0.mk hL1
    clear hoL hb10 K9 HOM HM10 HCM9 HCM T9 HB6 hL1 hB5s
    go_wp2_with fail
    go_loopw [64] (fun v64 wr => ∃ i : Nat, i ≤ ql ∧ v64 = .int .i64 i ∧ Aside0 ((0 < ql → ∃ gm, M = some ⟨gm, 0, none⟩ ∧ W5.heap.size ≤ gm ∧ gm < w6.heap.size ∧ Some8 wr gm ql) ∧ kP.R 31 wr w9.heap.size (fun k => w9.heap.size ≤ k) (.slice LQ 1 dL) (pieces q) ∧ Bk wr w6.heap.size w6.heap.size ⟨dq, true, false⟩ v9 ∧ Below W5.heap.size W5 wr)) (fun v64 _ => ql - (intOf v64).toNat)
    case atStart => exact ⟨0, by omega, rfl, ⟨HOWN.out, HOL.out, K10.out, B10.out⟩⟩
    case round =>
      clear HOWN HOL K10 B10
      obtain ⟨i, hi, rfl, H⟩ := hrel
      by_cases hlt : i < ql
      · obtain ⟨gm, hM, hg1, hg2, h8⟩ := H.out.1 (by omega)
        obtain ⟨x, x0, x1⟩ := h8.cell hlt
        have hsz := HSZ.out
        have H2 := fun y => Aside0.mk (And.intro (h8.set i y) (And.intro (Kd.R_far (p := ⟨gm, i, none⟩) H.out.2.1 (fun k hk => by show k ≠ gm; omega) (.int .u8 y)) (And.intro (show Bk (wr.setCell ⟨gm, i, none⟩ (.int .u8 y)) w6.heap.size w6.heap.size ⟨dq, true, false⟩ v9 from ⟨blk_far H.out.2.2.1.1 (by simp; omega) _, Kd.R_mono (Kd.R_far (p := ⟨gm, i, none⟩) (Kd.R_mono (Kd.R_bound H.out.2.2.1.2) (ok' := fun k => k ≠ w6.heap.size ∧ w6.heap.size ≤ k) (fun k hk => ⟨hk.1, hk.2.1⟩)) (fun k hk => by show k ≠ gm; omega) _) (fun k hk => hk.1)⟩) (H.out.2.2.2.setCell (p := ⟨gm, i, none⟩) hg1 (.int .u8 y)))))
        have HG := Aside0.mk (And.intro hg1 hg2)
        subst hM
        clear h8 hsz hg1 hg2
        go_wp2_with fail
        go_roundw
        case rel => exact ⟨i + 1, by omega, by go_num, ⟨fun _ => ⟨gm, rfl, HG.out.1, HG.out.2, (H2 _).out.1⟩, (H2 _).out.2.1, (H2 _).out.2.2.1, (H2 _).out.2.2.2⟩⟩
        case measure => simp [intOf]; omega
      · have d9 : decide ((i : Int) < ql) = false := decide_eq_false (by omega)
        have d9' : decide (i < ql) = false := decide_eq_false hlt
        have hRL := Aside0.mk H.out.2.1
        have hK := Aside0.mk H.out.2.2.1
        have hB := Aside0.mk (B5a.out.trans (H.out.2.2.2.mono B5a.out.size))
        have hCq := Aside0.mk (Kd.C_below C5a.out H.out.2.2.2)
        clear H
        go_wp2_with fail
        refine (open_nil _).mono ?_
        rintro e u1 ⟨rfl, hu1⟩
        have a1 := Aside0.mk (Kd.R_below hRL.out hu1)
        have a2 := Aside0.mk (hK.out.below hu1)
        have a3 := Aside0.mk (below_step hB.out hu1)
        have a4 := Aside0.mk (Kd.C_below hCq.out hu1)
        clear hRL hK hB hCq hu1
        go_wp2_with fail
        refine (held_nil _).mono ?_
        rintro e u2 ⟨rfl, hu2⟩
        have b1 := Aside0.mk (Kd.R_below a1.out hu2)
        have b2 := Aside0.mk (a2.out.below hu2)
        have b3 := Aside0.mk (below_step a3.out hu2)
        have b4 := Aside0.mk (Kd.C_below a4.out hu2)
        clear a1 a2 a3 a4 hu2
        go_wp2_with fail
        refine (HCNT.out _).mono ?_
        rintro e u3 ⟨rfl, hu3⟩
        have c1 := Aside0.mk (Kd.R_below b1.out hu3)
        have c2 := Aside0.mk (b2.out.below hu3)
        have c3 := Aside0.mk (below_step b3.out hu3)
        have c4 := Aside0.mk (Kd.C_below b4.out hu3)
        clear b1 b2 b3 b4 hu3
        go_wp2_with fail
        refine (held_any w6.heap.size w6.heap.size ⟨dq, true, false⟩ v9 _ c2.out).mono ?_
        rintro e u4 ⟨rfl, hu4⟩
        rw [show ((⟨dq, true, false⟩ : Bs).p.length : Int) = 64 from by show ((dq.length : Nat) : Int) = 64; rw [HDL.out]; rfl]
        have f1 := Aside0.mk (Kd.R_below c1.out hu4)
        have f3 := Aside0.mk (below_step c3.out hu4)
        have f4 := Aside0.mk (Kd.C_below c4.out hu4)
        clear c1 c2 c3 c4 hu4
        obtain ⟨_, hdL, hCL⟩ := R_C f1.out
        obtain ⟨ad, B, cB, hLQ, y0, y1, y2, hyc, hyd⟩ := piece_at hCL 0 (by rw [HL1.out]; omega)
        have hx : (pieces q)[0]'(by rw [HL1.out]; omega) = pieceN q (countN q.length) 0 := pieces_get q _
        have hxd : ((pieces q)[0]'(by rw [HL1.out]; omega)).d = q := by
          rw [hx]
          show (q.drop (64 * 0)).take 64 = q
          simp only [Nat.mul_zero, List.drop_zero]
          exact List.take_of_length_le (by rw [HQL.out]; omega)
        rw [hxd, HQL.out] at y2 hyc hyd
        have HYD := Aside0.mk hyd
        subst hLQ
        rw [Nat.zero_mul] at y2
        simp [Addr.add] at y2
        clear hCL y0 y1 hx hxd hyd
        go_wp2_with fail
        refine (same_is true _ _ _ _ _ _ _ _ _ HYD.out hyc f4.out hd (by simp)).mono ?_
        rintro e u5 ⟨rfl, nd, rfl⟩
        go_wp2_with fail
        go_ret
        exact ⟨rfl, pw_below_drewN f3.out nd⟩
  ·
    have d0 : decide ((0 : Int) ≤ size) = true := decide_eq_true (by omega)
    have d1 : decide (size ≤ 1024) = true := decide_eq_true (by omega)
    have d0' : (0 : Int) ≤ size := by omega
    have d1' : size ≤ 1024 := by omega
    have d2 : decide ((64 : Int) < size) = true := decide_eq_true (by omega)
    have d3 : decide ((0 : Int) < r) = true := decide_eq_true (by omega)
    have HCNT : Aside0 (∀ w, Calls Try.prog 12 #[.int .i64 size] w fun e w' => e = .returned (.int .i64 ((m : Int) + 1)) ∧ Below w.heap.size w w') := ⟨fun w => by
      have := count_any (64 * dn + r) (by omega) w
      rw [h7, ← h1] at this
      exact this⟩
    have d2' : (64 : Int) < size := by omega
    have d3' : (0 : Int) < r := by omega
    clear hs h1 h7
    go_wp2_with fail
    clear d0 d0' d1 d1' d2 d3 d2' d3' h2 h2' h3 h3' h4 h5 h6 h6'
    refine (join_any _ 1 1 [q] _ (C_one_row rfl C5.out hd) (by omega) (by simp [HQL.out]; omega)).mono ?_
    rintro e w6 ⟨vm, rfl, hom, hb6⟩
    rw [show [q].flatten = q by simp] at hom
    obtain ⟨M, dm, hvm⟩ := Kd.R_slice hom
    rw [HQL.out] at hvm
    subst hvm
    have B5a := Aside0.mk (below_alloc B5.out (.cells #[.slice Q ql d] 24))
    have C5a := Aside0.mk (Kd.C_alloc C5.out (.cells #[.slice Q ql d] 24))
    have hB5s : w.heap.size ≤ (w5.alloc (.cells #[.slice Q ql d] 24)).heap.size := B5a.out.size
    generalize w5.alloc (.cells #[.slice Q ql d] 24) = W5 at *
    have B6 := Aside0.mk (below_step B5a.out hb6)
    obtain ⟨_, hdm, hCm⟩ := R_C hom
    have HOM : Aside0 ((Kd.int .u8).R 5 w6 W5.heap.size (fun _ => True) (.slice M ql dm) q) := ⟨hom⟩
    have HB6 := Aside0.mk hb6
    have HCM := Aside0.mk hCm
    clear B5 C5 hom hb6 hCm
    have HT := Aside0.mk (below_alloc (below_alloc (below_alloc (Below.refl w6.heap.size w6) (.cells #[.slice none 0 0, .bool false, .bool false] 37)) (.cells (row8 zs) 5)) (.cells #[.slice M ql dm, .slice (some ⟨w6.heap.size + 1, 0, none⟩) 64 64] 24))
    have K6 : Aside0 (Bk (((w6.alloc (.cells #[.slice none 0 0, .bool false, .bool false] 37)).alloc (.cells (row8 zs) 5)).alloc (.cells #[.slice M ql dm, .slice (some ⟨w6.heap.size + 1, 0, none⟩) 64 64] 24)) w6.heap.size w6.heap.size B0 (.slice none 0 0)) := ⟨⟨blk_alloc (blk_alloc (blk_new _ _) _) _, Kd.R_nil _ _ _ _ _⟩⟩
    have hz : ((w6.alloc (.cells #[.slice none 0 0, .bool false, .bool false] 37)).alloc (.cells (row8 zs) 5)).heap[w6.heap.size + 1]? = some (.cells (row8 zs) 5 (0, 0)) := by simpa using blk_new (w6.alloc (.cells #[.slice none 0 0, .bool false, .bool false] 37)) (.cells (row8 zs) 5)
    have hz2 : (((w6.alloc (.cells #[.slice none 0 0, .bool false, .bool false] 37)).alloc (.cells (row8 zs) 5)).alloc (.cells #[.slice M ql dm, .slice (some ⟨w6.heap.size + 1, 0, none⟩) 64 64] 24)).heap[w6.heap.size + 1 + 1]? = some (.cells #[.slice M ql dm, .slice (some ⟨w6.heap.size + 1, 0, none⟩) 64 64] 24 (0, 0)) := by simpa using blk_new ((w6.alloc (.cells #[.slice none 0 0, .bool false, .bool false] 37)).alloc (.cells (row8 zs) 5)) (.cells #[.slice M ql dm, .slice (some ⟨w6.heap.size + 1, 0, none⟩) 64 64] 24)
    have HTWO := Aside0.mk (C_of_two (e := 5) hz2 (Kd.C_below HCM.out HT.out) hdm (Row8.reads (blk_alloc hz (.cells #[.slice M ql dm, .slice (some ⟨w6.heap.size + 1, 0, none⟩) 64 64] 24)) HZL.out (by omega)) (Nat.le_refl 64))
    clear hz hz2
    have hm : ∀ w : World, (Instr.makeSlice 24 (.int .i64 64) (.int .i64 64)).run Try.prog w = .ok (.slice (some ⟨w.heap.size, 0, none⟩) 64 64) (w.alloc (.cells (row8 zs) 5)) := HMK.out
    go_wp2_with fail
    refine (join_any _ 2 2 [q, zs] _ HTWO.out (by omega) (by simp [HQL.out, HZL.out]; omega)).mono ?_
    rintro e w7 ⟨vj, rfl, hoj, hb7⟩
    clear hm
    obtain ⟨jq, hjq⟩ : ∃ jq, [q, zs].flatten = jq := ⟨_, rfl⟩
    have hjl : jq.length = ql + 64 := by rw [← hjq]; simp [HQL.out, HZL.out]
    rw [hjq] at hoj
    obtain ⟨J, dj, hvj⟩ := Kd.R_slice hoj
    subst hvj
    obtain ⟨jl, hjll⟩ : ∃ jl, jq.length = jl := ⟨_, rfl⟩
    rw [hjll] at hoj ⊢
    obtain ⟨_, hdj, hCj⟩ := R_C hoj
    have T7 := Aside0.mk (HT.out.trans (hb7.mono HT.out.size))
    have K7 := Aside0.mk (K6.out.below hb7)
    have HCJ := Aside0.mk hCj
    have HJQ := Aside0.mk (And.intro hjl hjll)
    clear hoj hb7 hCj HTWO HT K6 hjl hjll hjq
    generalize ((w6.alloc (.cells #[.slice none 0 0, .bool false, .bool false] 37)).alloc (.cells (row8 zs) 5)).alloc (.cells #[.slice M ql dm, .slice (some ⟨w6.heap.size + 1, 0, none⟩) 64 64] 24) = W7 at *
    go_wp2_with fail
    refine (cut_any J jl dj jq 64 _ HCJ.out hdj (by omega)).mono ?_
    rintro e w8 ⟨vc, rfl, hoc, hb8⟩
    obtain ⟨dq, hdq⟩ : ∃ dq, jq.take (64 : Int).toNat = dq := ⟨_, rfl⟩
    have hdl : dq.length = 64 := by rw [← hdq, List.length_take]; show min 64 jq.length = 64; have := HJQ.out.1; omega
    rw [hdq] at hoc
    obtain ⟨D, dd, hvc⟩ := Kd.R_slice hoc
    rw [hdl] at hvc
    subst hvc
    obtain ⟨_, hdd, hCc⟩ := R_C hoc
    have T8 := Aside0.mk (T7.out.trans (hb8.mono T7.out.size))
    have K8 := Aside0.mk (K7.out.below hb8)
    have hput : putN B0 ⟨true, false, dq⟩ = (⟨dq, true, false⟩, ([], false, 0)) := by
      unfold putN B0
      rw [if_neg (by simp), if_neg (by simp [hdl]), if_neg (by simp [hdl]), if_neg (by simp)]
      rfl
    have key := put_any w6.heap.size w6.heap.size B0 (.slice none 0 0) ⟨true, false, dq⟩ D dd w8 K8.out (Nat.le_refl _) (by simp [B0]) (by show (Kd.int .u8).C w8 D dq.length dq; rw [hdl]; exact hCc) (by show dq.length ≤ dd; rw [hdl]; exact hdd)
    rw [hput] at key
    simp only [hdl] at key
    have KEY := Aside0.mk key
    have HDL := Aside0.mk hdl
    clear hoc hb8 hCc T7 K7 hput key hdq hdl
    go_wp2_with fail
    refine KEY.out.mono ?_
    rintro e w9 ⟨vo, v9, rfl, hv, hp⟩
    obtain ⟨Qo, do_, rfl⟩ := Kd.R_slice hv
    have T9 := Aside0.mk (T8.out.trans hp.2.2.2)
    have K9 := Aside0.mk hp.1
    clear hv hp KEY K8 T8
    have HCM9 := Aside0.mk (Kd.C_below HCM.out T9.out)
    go_wp2_with fail
    refine (split_any M ql dm q _ HCM9.out hdm (by omega)).mono ?_
    rintro e w10 ⟨vL, rfl, hoL, hb10⟩
    obtain ⟨LQ, dL, hvL⟩ := Kd.R_slice hoL
    have hL1 : (pieces q).length = 1 := by rw [pieces_length, HQL.out]; unfold countN; omega
    rw [hL1] at hvL
    subst hvL
    have HOL : Aside0 (kP.R 31 w10 w9.heap.size (fun k => w9.heap.size ≤ k) (.slice LQ 1 dL) (pieces q)) := ⟨Kd.R_mono (Kd.R_bound hoL) (fun k hk => hk.2.1)⟩
    have K10 := Aside0.mk (K9.out.below hb10)
    have HM10 := Aside0.mk (Kd.R_below (Kd.R_below HOM.out T9.out) hb10)
    have B10 : Aside0 (Below W5.heap.size W5 w10) := ⟨(HB6.out.trans (T9.out.mono HB6.out.size)).trans (hb10.mono (Nat.le_trans HB6.out.size T9.out.size))⟩
    have HSZ := Aside0.mk (And.intro HB6.out.size T9.out.size)
    have HOWN : Aside0 (0 < ql → ∃ gm, M = some ⟨gm, 0, none⟩ ∧ W5.heap.size ≤ gm ∧ gm < w6.heap.size ∧ Some8 w10 gm ql) := ⟨fun h => by
      obtain ⟨gm, h1, h2, h3, _⟩ := own8 HOM.out h
      obtain ⟨gm', h1', _, _, h4⟩ := own8 HM10.out h
      rw [h1] at h1'
      obtain rfl : gm = gm' := by simpa using h1'
      exact ⟨gm, h1, h2, h3, h4⟩⟩
    have HL1 := Aside0.mk hL1
    clear hoL hb10 K9 HOM HM10 HCM9 HCM T9 HB6 hL1 hB5s
    go_wp2_with fail
    go_loopw [64] (fun v64 wr => ∃ i : Nat, i ≤ ql ∧ v64 = .int .i64 i ∧ Aside0 ((0 < ql → ∃ gm, M = some ⟨gm, 0, none⟩ ∧ W5.heap.size ≤ gm ∧ gm < w6.heap.size ∧ Some8 wr gm ql) ∧ kP.R 31 wr w9.heap.size (fun k => w9.heap.size ≤ k) (.slice LQ 1 dL) (pieces q) ∧ Bk wr w6.heap.size w6.heap.size ⟨dq, true, false⟩ v9 ∧ Below W5.heap.size W5 wr)) (fun v64 _ => ql - (intOf v64).toNat)
    case atStart => exact ⟨0, by omega, rfl, ⟨HOWN.out, HOL.out, K10.out, B10.out⟩⟩
    case round =>
      clear HOWN HOL K10 B10
      obtain ⟨i, hi, rfl, H⟩ := hrel
      by_cases hlt : i < ql
      · obtain ⟨gm, hM, hg1, hg2, h8⟩ := H.out.1 (by omega)
        obtain ⟨x, x0, x1⟩ := h8.cell hlt
        have hsz := HSZ.out
        have H2 := fun y => Aside0.mk (And.intro (h8.set i y) (And.intro (Kd.R_far (p := ⟨gm, i, none⟩) H.out.2.1 (fun k hk => by show k ≠ gm; omega) (.int .u8 y)) (And.intro (show Bk (wr.setCell ⟨gm, i, none⟩ (.int .u8 y)) w6.heap.size w6.heap.size ⟨dq, true, false⟩ v9 from ⟨blk_far H.out.2.2.1.1 (by simp; omega) _, Kd.R_mono (Kd.R_far (p := ⟨gm, i, none⟩) (Kd.R_mono (Kd.R_bound H.out.2.2.1.2) (ok' := fun k => k ≠ w6.heap.size ∧ w6.heap.size ≤ k) (fun k hk => ⟨hk.1, hk.2.1⟩)) (fun k hk => by show k ≠ gm; omega) _) (fun k hk => hk.1)⟩) (H.out.2.2.2.setCell (p := ⟨gm, i, none⟩) hg1 (.int .u8 y)))))
        have HG := Aside0.mk (And.intro hg1 hg2)
        subst hM
        clear h8 hsz hg1 hg2
        go_wp2_with fail
        go_roundw
        case rel => exact ⟨i + 1, by omega, by go_num, ⟨fun _ => ⟨gm, rfl, HG.out.1, HG.out.2, (H2 _).out.1⟩, (H2 _).out.2.1, (H2 _).out.2.2.1, (H2 _).out.2.2.2⟩⟩
        case measure => simp [intOf]; omega
      · have d9 : decide ((i : Int) < ql) = false := decide_eq_false (by omega)
        have d9' : decide (i < ql) = false := decide_eq_false hlt
        have hRL := Aside0.mk H.out.2.1
        have hK := Aside0.mk H.out.2.2.1
        have hB := Aside0.mk (B5a.out.trans (H.out.2.2.2.mono B5a.out.size))
        have hCq := Aside0.mk (Kd.C_below C5a.out H.out.2.2.2)
        clear H
        go_wp2_with fail
        refine (open_nil _).mono ?_
        rintro e u1 ⟨rfl, hu1⟩
        have a1 := Aside0.mk (Kd.R_below hRL.out hu1)
        have a2 := Aside0.mk (hK.out.below hu1)
        have a3 := Aside0.mk (below_step hB.out hu1)
        have a4 := Aside0.mk (Kd.C_below hCq.out hu1)
        clear hRL hK hB hCq hu1
        go_wp2_with fail
        refine (held_nil _).mono ?_
        rintro e u2 ⟨rfl, hu2⟩
        have b1 := Aside0.mk (Kd.R_below a1.out hu2)
        have b2 := Aside0.mk (a2.out.below hu2)
        have b3 := Aside0.mk (below_step a3.out hu2)
        have b4 := Aside0.mk (Kd.C_below a4.out hu2)
        clear a1 a2 a3 a4 hu2
        go_wp2_with fail
        refine (HCNT.out _).mono ?_
        rintro e u3 ⟨rfl, hu3⟩
        have c1 := Aside0.mk (Kd.R_below b1.out hu3)
        have c2 := Aside0.mk (b2.out.below hu3)
        have c3 := Aside0.mk (below_step b3.out hu3)
        have c4 := Aside0.mk (Kd.C_below b4.out hu3)
        clear b1 b2 b3 b4 hu3
        go_wp2_with fail
        refine (held_any w6.heap.size w6.heap.size ⟨dq, true, false⟩ v9 _ c2.out).mono ?_
        rintro e u4 ⟨rfl, hu4⟩
        rw [show ((⟨dq, true, false⟩ : Bs).p.length : Int) = 64 from by show ((dq.length : Nat) : Int) = 64; rw [HDL.out]; rfl]
        have f1 := Aside0.mk (Kd.R_below c1.out hu4)
        have f3 := Aside0.mk (below_step c3.out hu4)
        have f4 := Aside0.mk (Kd.C_below c4.out hu4)
        clear c1 c2 c3 c4 hu4
        obtain ⟨_, hdL, hCL⟩ := R_C f1.out
        obtain ⟨ad, B, cB, hLQ, y0, y1, y2, hyc, hyd⟩ := piece_at hCL 0 (by rw [HL1.out]; omega)
        have hx : (pieces q)[0]'(by rw [HL1.out]; omega) = pieceN q (countN q.length) 0 := pieces_get q _
        have hxd : ((pieces q)[0]'(by rw [HL1.out]; omega)).d = q := by
          rw [hx]
          show (q.drop (64 * 0)).take 64 = q
          simp only [Nat.mul_zero, List.drop_zero]
          exact List.take_of_length_le (by rw [HQL.out]; omega)
        rw [hxd, HQL.out] at y2 hyc hyd
        have HYD := Aside0.mk hyd
        subst hLQ
        rw [Nat.zero_mul] at y2
        simp [Addr.add] at y2
        clear hCL y0 y1 hx hxd hyd
        go_wp2_with fail
        refine (same_is true _ _ _ _ _ _ _ _ _ HYD.out hyc f4.out hd (by simp)).mono ?_
        rintro e u5 ⟨rfl, nd, rfl⟩
        go_wp2_with fail
        go_ret
        exact ⟨rfl, pw_below_drewN f3.out nd⟩
  ·
    have d0 : decide ((0 : Int) ≤ size) = true := decide_eq_true (by omega)
    have d1 : decide (size ≤ 1024) = true := decide_eq_true (by omega)
    have d0' : (0 : Int) ≤ size := by omega
    have d1' : size ≤ 1024 := by omega
    have d2 : decide ((64 : Int) < size) = false := decide_eq_false (by omega)
    have d3 : decide ((0 : Int) < r) = true := decide_eq_true (by omega)
    have HCNT : Aside0 (∀ w, Calls Try.prog 12 #[.int .i64 size] w fun e w' => e = .returned (.int .i64 1) ∧ Below w.heap.size w w') := ⟨fun w => by
      have := count_any r (by omega) w
      rw [h7, ← h1] at this
      exact this⟩
    have d2' : ¬ (64 : Int) < size := by omega
    have d3' : (0 : Int) < r := by omega
    clear hs h1 h7
    go_wp2_with fail
    clear d0 d0' d1 d1' d2 d3 d2' d3' h2 h3 h4 h5
    refine (join_any _ 1 1 [q] _ (C_one_row rfl C5.out hd) (by omega) (by simp [HQL.out]; omega)).mono ?_
    rintro e w6 ⟨vm, rfl, hom, hb6⟩
    rw [show [q].flatten = q by simp] at hom
    obtain ⟨M, dm, hvm⟩ := Kd.R_slice hom
    rw [HQL.out] at hvm
    subst hvm
    have B5a := Aside0.mk (below_alloc B5.out (.cells #[.slice Q ql d] 24))
    have C5a := Aside0.mk (Kd.C_alloc C5.out (.cells #[.slice Q ql d] 24))
    have hB5s : w.heap.size ≤ (w5.alloc (.cells #[.slice Q ql d] 24)).heap.size := B5a.out.size
    generalize w5.alloc (.cells #[.slice Q ql d] 24) = W5 at *
    have B6 := Aside0.mk (below_step B5a.out hb6)
    obtain ⟨_, hdm, hCm⟩ := R_C hom
    have HOM : Aside0 ((Kd.int .u8).R 5 w6 W5.heap.size (fun _ => True) (.slice M ql dm) q) := ⟨hom⟩
    have HB6 := Aside0.mk hb6
    have HCM := Aside0.mk hCm
    clear B5 C5 hom hb6 hCm
    have HT := Aside0.mk (below_alloc (below_alloc (below_alloc (Below.refl w6.heap.size w6) (.cells #[.slice none 0 0, .bool false, .bool false] 37)) (.cells (row8 zs) 5)) (.cells #[.slice M ql dm, .slice (some ⟨w6.heap.size + 1, 0, none⟩) 64 64] 24))
    have K6 : Aside0 (Bk (((w6.alloc (.cells #[.slice none 0 0, .bool false, .bool false] 37)).alloc (.cells (row8 zs) 5)).alloc (.cells #[.slice M ql dm, .slice (some ⟨w6.heap.size + 1, 0, none⟩) 64 64] 24)) w6.heap.size w6.heap.size B0 (.slice none 0 0)) := ⟨⟨blk_alloc (blk_alloc (blk_new _ _) _) _, Kd.R_nil _ _ _ _ _⟩⟩
    have hz : ((w6.alloc (.cells #[.slice none 0 0, .bool false, .bool false] 37)).alloc (.cells (row8 zs) 5)).heap[w6.heap.size + 1]? = some (.cells (row8 zs) 5 (0, 0)) := by simpa using blk_new (w6.alloc (.cells #[.slice none 0 0, .bool false, .bool false] 37)) (.cells (row8 zs) 5)
    have hz2 : (((w6.alloc (.cells #[.slice none 0 0, .bool false, .bool false] 37)).alloc (.cells (row8 zs) 5)).alloc (.cells #[.slice M ql dm, .slice (some ⟨w6.heap.size + 1, 0, none⟩) 64 64] 24)).heap[w6.heap.size + 1 + 1]? = some (.cells #[.slice M ql dm, .slice (some ⟨w6.heap.size + 1, 0, none⟩) 64 64] 24 (0, 0)) := by simpa using blk_new ((w6.alloc (.cells #[.slice none 0 0, .bool false, .bool false] 37)).alloc (.cells (row8 zs) 5)) (.cells #[.slice M ql dm, .slice (some ⟨w6.heap.size + 1, 0, none⟩) 64 64] 24)
    have HTWO := Aside0.mk (C_of_two (e := 5) hz2 (Kd.C_below HCM.out HT.out) hdm (Row8.reads (blk_alloc hz (.cells #[.slice M ql dm, .slice (some ⟨w6.heap.size + 1, 0, none⟩) 64 64] 24)) HZL.out (by omega)) (Nat.le_refl 64))
    clear hz hz2
    have hm : ∀ w : World, (Instr.makeSlice 24 (.int .i64 64) (.int .i64 64)).run Try.prog w = .ok (.slice (some ⟨w.heap.size, 0, none⟩) 64 64) (w.alloc (.cells (row8 zs) 5)) := HMK.out
    go_wp2_with fail
    refine (join_any _ 2 2 [q, zs] _ HTWO.out (by omega) (by simp [HQL.out, HZL.out]; omega)).mono ?_
    rintro e w7 ⟨vj, rfl, hoj, hb7⟩
    clear hm
    obtain ⟨jq, hjq⟩ : ∃ jq, [q, zs].flatten = jq := ⟨_, rfl⟩
    have hjl : jq.length = ql + 64 := by rw [← hjq]; simp [HQL.out, HZL.out]
    rw [hjq] at hoj
    obtain ⟨J, dj, hvj⟩ := Kd.R_slice hoj
    subst hvj
    obtain ⟨jl, hjll⟩ : ∃ jl, jq.length = jl := ⟨_, rfl⟩
    rw [hjll] at hoj ⊢
    obtain ⟨_, hdj, hCj⟩ := R_C hoj
    have T7 := Aside0.mk (HT.out.trans (hb7.mono HT.out.size))
    have K7 := Aside0.mk (K6.out.below hb7)
    have HCJ := Aside0.mk hCj
    have HJQ := Aside0.mk (And.intro hjl hjll)
    clear hoj hb7 hCj HTWO HT K6 hjl hjll hjq
    generalize ((w6.alloc (.cells #[.slice none 0 0, .bool false, .bool false] 37)).alloc (.cells (row8 zs) 5)).alloc (.cells #[.slice M ql dm, .slice (some ⟨w6.heap.size + 1, 0, none⟩) 64 64] 24) = W7 at *
    go_wp2_with fail
    refine (cut_any J jl dj jq 64 _ HCJ.out hdj (by omega)).mono ?_
    rintro e w8 ⟨vc, rfl, hoc, hb8⟩
    obtain ⟨dq, hdq⟩ : ∃ dq, jq.take (64 : Int).toNat = dq := ⟨_, rfl⟩
    have hdl : dq.length = 64 := by rw [← hdq, List.length_take]; show min 64 jq.length = 64; have := HJQ.out.1; omega
    rw [hdq] at hoc
    obtain ⟨D, dd, hvc⟩ := Kd.R_slice hoc
    rw [hdl] at hvc
    subst hvc
    obtain ⟨_, hdd, hCc⟩ := R_C hoc
    have T8 := Aside0.mk (T7.out.trans (hb8.mono T7.out.size))
    have K8 := Aside0.mk (K7.out.below hb8)
    have hput : putN B0 ⟨true, false, dq⟩ = (⟨dq, true, false⟩, ([], false, 0)) := by
      unfold putN B0
      rw [if_neg (by simp), if_neg (by simp [hdl]), if_neg (by simp [hdl]), if_neg (by simp)]
      rfl
    have key := put_any w6.heap.size w6.heap.size B0 (.slice none 0 0) ⟨true, false, dq⟩ D dd w8 K8.out (Nat.le_refl _) (by simp [B0]) (by show (Kd.int .u8).C w8 D dq.length dq; rw [hdl]; exact hCc) (by show dq.length ≤ dd; rw [hdl]; exact hdd)
    rw [hput] at key
    simp only [hdl] at key
    have KEY := Aside0.mk key
    have HDL := Aside0.mk hdl
    clear hoc hb8 hCc T7 K7 hput key hdq hdl
    go_wp2_with fail
    refine KEY.out.mono ?_
    rintro e w9 ⟨vo, v9, rfl, hv, hp⟩
    obtain ⟨Qo, do_, rfl⟩ := Kd.R_slice hv
    have T9 := Aside0.mk (T8.out.trans hp.2.2.2)
    have K9 := Aside0.mk hp.1
    clear hv hp KEY K8 T8
    have HCM9 := Aside0.mk (Kd.C_below HCM.out T9.out)
    go_wp2_with fail
    refine (split_any M ql dm q _ HCM9.out hdm (by omega)).mono ?_
    rintro e w10 ⟨vL, rfl, hoL, hb10⟩
    obtain ⟨LQ, dL, hvL⟩ := Kd.R_slice hoL
    have hL1 : (pieces q).length = 1 := by rw [pieces_length, HQL.out]; unfold countN; omega
    rw [hL1] at hvL
    subst hvL
    have HOL : Aside0 (kP.R 31 w10 w9.heap.size (fun k => w9.heap.size ≤ k) (.slice LQ 1 dL) (pieces q)) := ⟨Kd.R_mono (Kd.R_bound hoL) (fun k hk => hk.2.1)⟩
    have K10 := Aside0.mk (K9.out.below hb10)
    have HM10 := Aside0.mk (Kd.R_below (Kd.R_below HOM.out T9.out) hb10)
    have B10 : Aside0 (Below W5.heap.size W5 w10) := ⟨(HB6.out.trans (T9.out.mono HB6.out.size)).trans (hb10.mono (Nat.le_trans HB6.out.size T9.out.size))⟩
    have HSZ := Aside0.mk (And.intro HB6.out.size T9.out.size)
    have HOWN : Aside0 (0 < ql → ∃ gm, M = some ⟨gm, 0, none⟩ ∧ W5.heap.size ≤ gm ∧ gm < w6.heap.size ∧ Some8 w10 gm ql) := ⟨fun h => by
      obtain ⟨gm, h1, h2, h3, _⟩ := own8 HOM.out h
      obtain ⟨gm', h1', _, _, h4⟩ := own8 HM10.out h
      rw [h1] at h1'
      obtain rfl : gm = gm' := by simpa using h1'
      exact ⟨gm, h1, h2, h3, h4⟩⟩
    have HL1 := Aside0.mk hL1
    clear hoL hb10 K9 HOM HM10 HCM9 HCM T9 HB6 hL1 hB5s
    go_wp2_with fail
    go_loopw [64] (fun v64 wr => ∃ i : Nat, i ≤ ql ∧ v64 = .int .i64 i ∧ Aside0 ((0 < ql → ∃ gm, M = some ⟨gm, 0, none⟩ ∧ W5.heap.size ≤ gm ∧ gm < w6.heap.size ∧ Some8 wr gm ql) ∧ kP.R 31 wr w9.heap.size (fun k => w9.heap.size ≤ k) (.slice LQ 1 dL) (pieces q) ∧ Bk wr w6.heap.size w6.heap.size ⟨dq, true, false⟩ v9 ∧ Below W5.heap.size W5 wr)) (fun v64 _ => ql - (intOf v64).toNat)
    case atStart => exact ⟨0, by omega, rfl, ⟨HOWN.out, HOL.out, K10.out, B10.out⟩⟩
    case round =>
      clear HOWN HOL K10 B10
      obtain ⟨i, hi, rfl, H⟩ := hrel
      by_cases hlt : i < ql
      · obtain ⟨gm, hM, hg1, hg2, h8⟩ := H.out.1 (by omega)
        obtain ⟨x, x0, x1⟩ := h8.cell hlt
        have hsz := HSZ.out
        have H2 := fun y => Aside0.mk (And.intro (h8.set i y) (And.intro (Kd.R_far (p := ⟨gm, i, none⟩) H.out.2.1 (fun k hk => by show k ≠ gm; omega) (.int .u8 y)) (And.intro (show Bk (wr.setCell ⟨gm, i, none⟩ (.int .u8 y)) w6.heap.size w6.heap.size ⟨dq, true, false⟩ v9 from ⟨blk_far H.out.2.2.1.1 (by simp; omega) _, Kd.R_mono (Kd.R_far (p := ⟨gm, i, none⟩) (Kd.R_mono (Kd.R_bound H.out.2.2.1.2) (ok' := fun k => k ≠ w6.heap.size ∧ w6.heap.size ≤ k) (fun k hk => ⟨hk.1, hk.2.1⟩)) (fun k hk => by show k ≠ gm; omega) _) (fun k hk => hk.1)⟩) (H.out.2.2.2.setCell (p := ⟨gm, i, none⟩) hg1 (.int .u8 y)))))
        have HG := Aside0.mk (And.intro hg1 hg2)
        subst hM
        clear h8 hsz hg1 hg2
        go_wp2_with fail
        go_roundw
        case rel => exact ⟨i + 1, by omega, by go_num, ⟨fun _ => ⟨gm, rfl, HG.out.1, HG.out.2, (H2 _).out.1⟩, (H2 _).out.2.1, (H2 _).out.2.2.1, (H2 _).out.2.2.2⟩⟩
        case measure => simp [intOf]; omega
      · have d9 : decide ((i : Int) < ql) = false := decide_eq_false (by omega)
        have d9' : decide (i < ql) = false := decide_eq_false hlt
        have hRL := Aside0.mk H.out.2.1
        have hK := Aside0.mk H.out.2.2.1
        have hB := Aside0.mk (B5a.out.trans (H.out.2.2.2.mono B5a.out.size))
        have hCq := Aside0.mk (Kd.C_below C5a.out H.out.2.2.2)
        clear H
        go_wp2_with fail
        refine (open_nil _).mono ?_
        rintro e u1 ⟨rfl, hu1⟩
        have a1 := Aside0.mk (Kd.R_below hRL.out hu1)
        have a2 := Aside0.mk (hK.out.below hu1)
        have a3 := Aside0.mk (below_step hB.out hu1)
        have a4 := Aside0.mk (Kd.C_below hCq.out hu1)
        clear hRL hK hB hCq hu1
        go_wp2_with fail
        refine (held_nil _).mono ?_
        rintro e u2 ⟨rfl, hu2⟩
        have b1 := Aside0.mk (Kd.R_below a1.out hu2)
        have b2 := Aside0.mk (a2.out.below hu2)
        have b3 := Aside0.mk (below_step a3.out hu2)
        have b4 := Aside0.mk (Kd.C_below a4.out hu2)
        clear a1 a2 a3 a4 hu2
        go_wp2_with fail
        refine (HCNT.out _).mono ?_
        rintro e u3 ⟨rfl, hu3⟩
        have c1 := Aside0.mk (Kd.R_below b1.out hu3)
        have c2 := Aside0.mk (b2.out.below hu3)
        have c3 := Aside0.mk (below_step b3.out hu3)
        have c4 := Aside0.mk (Kd.C_below b4.out hu3)
        clear b1 b2 b3 b4 hu3
        go_wp2_with fail
        refine (held_any w6.heap.size w6.heap.size ⟨dq, true, false⟩ v9 _ c2.out).mono ?_
        rintro e u4 ⟨rfl, hu4⟩
        rw [show ((⟨dq, true, false⟩ : Bs).p.length : Int) = 64 from by show ((dq.length : Nat) : Int) = 64; rw [HDL.out]; rfl]
        have f1 := Aside0.mk (Kd.R_below c1.out hu4)
        have f3 := Aside0.mk (below_step c3.out hu4)
        have f4 := Aside0.mk (Kd.C_below c4.out hu4)
        clear c1 c2 c3 c4 hu4
        obtain ⟨_, hdL, hCL⟩ := R_C f1.out
        obtain ⟨ad, B, cB, hLQ, y0, y1, y2, hyc, hyd⟩ := piece_at hCL 0 (by rw [HL1.out]; omega)
        have hx : (pieces q)[0]'(by rw [HL1.out]; omega) = pieceN q (countN q.length) 0 := pieces_get q _
        have hxd : ((pieces q)[0]'(by rw [HL1.out]; omega)).d = q := by
          rw [hx]
          show (q.drop (64 * 0)).take 64 = q
          simp only [Nat.mul_zero, List.drop_zero]
          exact List.take_of_length_le (by rw [HQL.out]; omega)
        rw [hxd, HQL.out] at y2 hyc hyd
        have HYD := Aside0.mk hyd
        subst hLQ
        rw [Nat.zero_mul] at y2
        simp [Addr.add] at y2
        clear hCL y0 y1 hx hxd hyd
        go_wp2_with fail
        refine (same_is true _ _ _ _ _ _ _ _ _ HYD.out hyc f4.out hd (by simp)).mono ?_
        rintro e u5 ⟨rfl, nd, rfl⟩
        go_wp2_with fail
        go_ret
        exact ⟨rfl, pw_below_drewN f3.out nd⟩
end Go.Proofs.Ytmhninlndjcikaa
