/- clip.Split. -/
import Derived.Test.YtmhninlndjcikaaKt
namespace Go.Proofs.Ytmhninlndjcikaa
open Go.RowKit Go.Proofs.YtmhninlndjcikaaW.PrintWords Go.Proofs.YtmhninlndjcikaaW.PrintLast Go.Proofs.YtmhninlndjcikaaW.PrintMore
set_option linter.unusedVariables false
set_option linter.unusedSimpArgs false
attribute [local go_sem] min2_int min_two

set_option maxRecDepth 100000 in
set_option maxHeartbeats 400000 in
theorem split_any (A : Option Addr) (n c : Nat) (l : List Int) (w : World) (hr : (Kd.int .u8).C w A n l) (hc : n ≤ c) (hn : n ≤ 1024) :
    Calls Try.prog 11 #[.slice A n c] w fun e w' => ∃ v, e = .returned (.tuple #[v, .int .i64 0]) ∧ kP.R 31 w' w.heap.size (fun _ => True) v (pieces l) ∧ Below w.heap.size w w' := by
  have hl : l.length = n := hr.1
  have HR := Aside0.mk hr
  clear hr
  have d1 : decide (1024 < (n : Int)) = false := decide_eq_false (by omega)
  go_enter Try.func11, Try.ntmps11
  go_wp2_with fail
  refine (count_any n hn _).mono ?_
  rintro e w1 ⟨rfl, hb1⟩
  have B1 := Aside0.mk hb1
  clear hb1
  have hm1 := countN_le hn
  have hm2 := countN_pos n
  have hm3 : (64 * (countN n - 1) < n ∨ countN n = 1) ∧ n ≤ 64 * countN n := by unfold countN; omega
  obtain ⟨m, hm⟩ : ∃ m, countN n = m := ⟨_, rfl⟩
  rw [hm] at hm1 hm2 hm3 ⊢
  have HM := Aside0.mk hm
  clear hm
  go_wp2_with fail
  clear d1
  go_loopw [5, 15] (fun v5 v15 wr => ∃ (j : Nat), j ≤ m ∧ v15 = .int .i64 j ∧ Aside0 (kP.R 31 wr w.heap.size (fun _ => True) v5 ((List.range j).map (pieceN l m)) ∧ Below w.heap.size w wr)) (fun _ v15 _ => m - (intOf v15).toNat)
  case atStart => exact ⟨0, by omega, rfl, ⟨Kd.R_nil _ _ _ _ _, B1.out⟩⟩
  case round =>
    clear B1
    obtain ⟨j, hj, rfl, H⟩ := hrel
    by_cases hlt : j < m
    · obtain ⟨lo, mi, b, m1, hlo, e1, e1w, e2, e2w, e3, e3w, e3b, e3c, e4, e4b, e5, e5b, hab, hb64, hbl, e3d⟩ := split_facts hn HM.out hlt
      have htk : (l.drop lo).take (b - lo) = (l.drop (64 * j)).take 64 := by
        rw [hlo]
        apply List.take_eq_take_iff.2
        rw [List.length_drop, hl]; exact hb64
      obtain ⟨A', hq, hC⟩ := cut_in (P := Try.prog) .u8 .i64 24 5 1 Try.underlying24 wx_info5 A n c lo b hab.1 hab.2 hc
      have HC := Aside0.mk (hC wr l (Kd.C_below HR.out H.out.2))
      rw [htk] at HC
      obtain ⟨q, hqd⟩ : ∃ q, (l.drop (64 * j)).take 64 = q := ⟨_, rfl⟩
      rw [hqd] at HC
      have HQD := Aside0.mk hqd
      clear hqd
      have E3 := Aside0.mk e3d
      clear e3d
      clear hC htk hlo hab hb64 hm3 e3 e3w e3b e3c
      go_wp2_with fail
      refine (clone_any _ _ _ _ _ HC.out hbl).mono ?_
      rintro e w2 ⟨v2, rfl, ho2, hb2⟩
      have HO := Aside0.mk (Kd.R_below H.out.1 hb2)
      have HB := Aside0.mk (below_step H.out.2 hb2)
      have HV := Aside0.mk (Kd.R_lower (Kd.R_mono (Kd.R_bound ho2) (fun k hk => hk.2.1)) H.out.2.size)
      have hwr : wr.heap.size ≤ w2.heap.size := hb2.size
      have HN := Aside0.mk (Kd.R_own H.out.1)
      obtain ⟨Q, d, hv2⟩ := Kd.R_slice ho2
      subst hv2
      clear ho2 hb2 e1 e1w e2 e2w e4 e4b e5 e5b hq
      go_wp2_with (at_builtin; go_loud (refine Kd.R_append kP (w0 := w) w.heap.size rfl (.tmp 20) (.tmp 37) 26 31 (.agg #[(.bool false), (.bool false), (.slice none 0 0)]) 32 rfl Try.underlying26 infoP rfl (by decide) (by omega) u5 ((List.range j).map (pieceN l m)) (pieceN l m j) [.bool (decide (j = 0)), .bool ((j : Int) == (m : Int) - 1), .slice Q q.length d] (fun _ => True) (fun k => wr.heap.size ≤ k) rfl rfl ?aP ?aK ?aF ?aO ?aB ?aS ?aL ?_))
      case aP =>
        rw [E3.out]
        exact kP_mkM _ _ _ (pieceN l m j) (by show (Kd.int .u8).R _ _ _ _ _ ((l.drop (64 * j)).take 64); rw [HQD.out]; exact HV.out)
      case aK =>
        intro k hk
        refine ⟨trivial, fun e => ?_⟩
        obtain ⟨inner, hown⟩ := HN.out
        have := own_lt hown k e.symm
        omega
      case aF => exact fun _ _ => trivial
      case aO => exact HO.out
      case aB => exact HB.out
      case aS => exact HB.out.size
      case aL => simp; omega
      intro v3 w3 ho hb _ _
      have HO3 := Aside0.mk ho
      have HB3 := Aside0.mk hb
      clear ho hb
      go_wp2_with fail
      go_roundw
      case rel =>
        refine ⟨j + 1, by omega, by go_num, ⟨?_, HB3.out⟩⟩
        rw [List.range_succ, List.map_append]
        exact HO3.out
      case measure => simp [intOf]; omega
    · have hjm : j = m := by omega
      have HP : Aside0 (kP.R 31 wr w.heap.size (fun _ => True) u5 (pieces l)) := ⟨by
        unfold pieces
        rw [hl, HM.out, ← hjm]
        have := H.out.1
        rw [← hjm] at this
        exact this⟩
      have hd := decide_eq_false hlt
      clear hjm
      go_wp2_with fail
      go_ret2
      exact ⟨_, rfl, HP.out, H.out.2⟩

theorem split_long (A : Option Addr) (n c : Nat) (w : World) (hn : 1024 < n) :
    Calls Try.prog 11 #[.slice A n c] w fun e w' => e = .returned (.tuple #[.slice none 0 0, .int .i64 4]) ∧ Below w.heap.size w w' := by
  have d1 : decide (1024 < (n : Int)) = true := decide_eq_true (by omega)
  have d2 : (1024 : Int) < n := by omega
  go_enter Try.func11, Try.ntmps11
  go_wp2_with fail
  go_ret2
  exact ⟨rfl, Below.refl _ _⟩
end Go.Proofs.Ytmhninlndjcikaa
