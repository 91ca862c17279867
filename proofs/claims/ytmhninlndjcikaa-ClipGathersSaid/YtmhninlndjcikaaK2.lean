/- The walk of ClipLong. -/
import Derived.Test.YtmhninlndjcikaaKr
namespace Go.Proofs.Ytmhninlndjcikaa
open Go.RowKit Go.Proofs.YtmhninlndjcikaaW.PrintWords Go.Proofs.YtmhninlndjcikaaW.PrintLast Go.Proofs.YtmhninlndjcikaaW.PrintMore
set_option linter.unusedVariables false
set_option linter.unusedSimpArgs false

def longK (i : Nat) : Bs := if i ≤ 16 then ⟨List.replicate (64 * i) 0, decide (0 < i), false⟩ else ⟨[], false, true⟩
theorem longK_put (i : Nat) : putN (longK i) ⟨decide (i = 0), false, List.replicate 64 0⟩ = (longK (i + 1), ([], false, if i = 16 then 4 else 0)) := by
  by_cases h : i ≤ 16
  · unfold longK putN
    rw [if_pos h]
    simp only [Bool.false_eq_true, false_and, if_false, List.length_replicate]
    rw [if_neg (by simp; omega)]
    by_cases h16 : i = 16
    · subst h16; simp
    · rw [if_neg (by omega), if_neg h16, if_pos (by omega), List.replicate_append_replicate]
      simp [Nat.mul_add]
  · unfold longK putN
    rw [if_neg h, if_pos ⟨rfl, decide_eq_false (by omega)⟩, if_neg (by omega), if_neg (by omega)]
theorem longK_len (i : Nat) : (longK i).p.length ≤ 1024 := by
  unfold longK
  split
  · simp; omega
  · simp
theorem put_row {w w' : World} {base g gr : Nat} {v v' : Value} {k' : Bs} {q : List Int} (h : Put' w w' base g v k' v') (hr : Row8 w gr q) (hne : gr ≠ g) (hv : v.ownBlock ≠ some gr) : Row8 w' gr q ∧ v'.ownBlock ≠ some gr := by
  refine ⟨?_, ?_⟩
  · unfold Row8
    rw [h.2.1.2 gr (blk_lt hr) hne (fun e => hv e.symm)]
    exact hr
  · rcases h.2.2.1 with h | h | ⟨b, h, hb⟩
    · rw [h]; simp
    · rw [h]; exact hv
    · rw [h]
      intro e
      have := blk_lt hr
      simp at e; omega
theorem zero_basket (w : World) : (zeroValue 37).run Try.prog w = .ok (.agg #[.slice none 0 0, .bool false, .bool false]) w := by kernel_rfl

set_option maxRecDepth 100000 in
set_option maxHeartbeats 2000000 in
theorem long_walk (n : Int) (A : Option Addr) (len c : Nat) (l : List Int) (w : World) (hn : 0 ≤ n ∧ n < 256) (hr : (Kd.int .u8).C w A len l) (hc : len ≤ c) (hl : ∀ x ∈ l, 0 ≤ x ∧ x < 256) :
    Calls Try.prog 4 #[.int .u8 n, .slice A len c] w fun e w' => e = .returned (.bool true) ∧ Below w.heap.size w w' := by
  obtain ⟨nn, rfl⟩ := Int.eq_ofNat_of_zero_le hn.1
  obtain ⟨mm, hmm⟩ : ∃ mm, nn % 10 = mm := ⟨_, rfl⟩
  have e0 : (nn : Int).tmod 10 = (mm : Int) := by rw [Int.tmod_eq_emod_of_nonneg (by omega)]; omega
  obtain ⟨N, hN⟩ : ∃ N, 17 + mm = N := ⟨_, rfl⟩
  have e1 : (17 : Int) + (mm : Int) = (N : Int) := by omega
  have e2 : wrap64 (N : Int) = (N : Int) := w64 (by omega)
  have e3 : IntKind.u8.wrap (mm : Int) = (mm : Int) := by rw [IntKind.wrap_u8]; omega
  have hN1 : 17 ≤ N := by omega
  have hN2 : N ≤ 26 := by omega
  have HR := Aside0.mk hr
  have hm : ∀ w : World, (Instr.makeSlice 24 (.int .i64 64) (.int .i64 64)).run Try.prog w = .ok (.slice (some ⟨w.heap.size, 0, none⟩) 64 64) (w.alloc (.cells (row8 (List.replicate 64 0)) 5)) := fun w => make_u8 .i64 .i64 64 (by omega) w
  obtain ⟨zs, hzs⟩ : ∃ zs : List Int, List.replicate 64 0 = zs := ⟨_, rfl⟩
  rw [hzs] at hm
  have hz64 : zs.length = 64 := by rw [← hzs]; simp
  have HZ := Aside0.mk hzs
  have HZL := Aside0.mk hz64
  clear hr hl hn hmm hN hzs hz64
  go_enter Try.func4, Try.ntmps4
  go_wp2_with fail
  refine (awake_any _).mono ?_
  rintro e w1 ⟨rfl, hb1⟩
  have B1 := Aside0.mk hb1
  clear hb1
  go_wp2_with fail
  refine (cut_any A len c l 60 _ (Kd.C_below HR.out B1.out) hc (by omega)).mono ?_
  rintro e w3 ⟨v, rfl, ho, hb3⟩
  have B3 := Aside0.mk (below_step B1.out hb3)
  clear B1 hb3
  obtain ⟨q, hq⟩ : ∃ q, l.take (60 : Int).toNat = q := ⟨_, rfl⟩
  rw [hq] at ho
  have hql : q.length ≤ 60 := by rw [← hq, List.length_take]; exact Nat.min_le_left _ _
  obtain ⟨Q, d, rfl, hd, hC⟩ := Kd.R_reads ho
  have HC := Aside0.mk hC
  obtain ⟨ql, hqll⟩ : ∃ ql, q.length = ql := ⟨_, rfl⟩
  rw [hqll] at hd HC hql ⊢
  have HQL := Aside0.mk hqll
  clear ho hq hC hqll
  go_wp2_with fail
  have B4 := Aside0.mk (below_alloc (below_alloc B3.out (.cells #[.slice none 0 0, .bool false, .bool false] 37)) (.cells (row8 zs) 5))
  have W4 : Aside0 (Below w3.heap.size w3 ((w3.alloc (.cells #[.slice none 0 0, .bool false, .bool false] 37)).alloc (.cells (row8 zs) 5))) := ⟨below_alloc (below_alloc (Below.refl _ _) _) _⟩
  have K4 : Aside0 (Bk ((w3.alloc (.cells #[.slice none 0 0, .bool false, .bool false] 37)).alloc (.cells (row8 zs) 5)) w3.heap.size w3.heap.size (longK 0) (.slice none 0 0)) := ⟨⟨blk_alloc (blk_new _ _) _, Kd.R_nil _ _ _ _ _⟩⟩
  have R4 : Aside0 (Row8 ((w3.alloc (.cells #[.slice none 0 0, .bool false, .bool false] 37)).alloc (.cells (row8 zs) 5)) (w3.heap.size + 1) zs) := ⟨by simpa [Row8] using blk_new (w3.alloc (.cells #[.slice none 0 0, .bool false, .bool false] 37)) (.cells (row8 zs) 5)⟩
  obtain ⟨W, hW⟩ : ∃ W, (w3.alloc (.cells #[.slice none 0 0, .bool false, .bool false] 37)).alloc (.cells (row8 zs) 5) = W := ⟨_, rfl⟩
  rw [hW] at B4 W4 K4 R4 ⊢
  clear hW hm e0 e1 e3
  go_loopw [27] (fun v27 wr => ∃ (j : Nat) (v : Value), j ≤ N ∧ v27 = .int .i64 j ∧ Aside0 (Bk wr w3.heap.size w3.heap.size (longK j) v ∧ Row8 wr (w3.heap.size + 1) zs ∧ v.ownBlock ≠ some (w3.heap.size + 1) ∧ Below w3.heap.size w3 wr)) (fun v27 _ => N - (intOf v27).toNat)
  case atStart => exact ⟨0, _, by omega, rfl, ⟨K4.out, R4.out, by simp [Value.ownBlock], W4.out⟩⟩
  case round =>
    clear K4 R4 W4 B4
    obtain ⟨j, v, hj, rfl, H⟩ := hrel
    by_cases hlt : j < N
    · have key := put_any w3.heap.size w3.heap.size (longK j) v ⟨decide (j = 0), false, zs⟩ (some ⟨w3.heap.size + 1, 0, none⟩) 64 wr H.out.1 (Nat.le_refl _) (longK_len j) (Row8.reads H.out.2.1 rfl (by rw [HZL.out]; omega)) (by rw [HZL.out]; omega)
      rw [← HZ.out, longK_put] at key
      simp only [List.length_replicate] at key
      obtain ⟨fb, hfb⟩ : ∃ fb, decide (j = 0) = fb := ⟨_, rfl⟩
      rw [hfb] at key
      have e5 : ((j : Int) == 0) = fb := by rw [← hfb, Bool.eq_iff_iff, beq_iff_eq, decide_eq_true_iff]; omega
      have KEY := Aside0.mk key
      clear key hfb
      by_cases h16 : j = 16
      · have e6 : ((j : Int) == 16) = true := by rw [h16]; rfl
        rw [if_pos h16] at KEY
        clear h16
        go_wp2_with fail
        refine KEY.out.mono ?_
        rintro e w5 ⟨vo, v', rfl, hv, hp⟩
        obtain ⟨Qo, do_, rfl⟩ := Kd.R_slice hv
        obtain ⟨r1, r2⟩ := put_row hp H.out.2.1 (by omega) H.out.2.2.1
        have H2 : Aside0 (Bk w5 w3.heap.size w3.heap.size (longK (j + 1)) v' ∧ Row8 w5 (w3.heap.size + 1) zs ∧ v'.ownBlock ≠ some (w3.heap.size + 1) ∧ Below w3.heap.size w3 w5) := ⟨hp.1, r1, r2, H.out.2.2.2.trans hp.2.2.2⟩
        clear hv hp r1 r2
        go_wp2_with fail
        go_roundw
        case rel => exact ⟨j + 1, v', by omega, by go_num, H2⟩
        case measure => simp [intOf]; omega
      · have e6 : ((j : Int) == 16) = false := by rw [beq_eq_false_iff_ne]; omega
        rw [if_neg h16] at KEY
        clear h16
        go_wp2_with fail
        refine KEY.out.mono ?_
        rintro e w5 ⟨vo, v', rfl, hv, hp⟩
        obtain ⟨Qo, do_, rfl⟩ := Kd.R_slice hv
        obtain ⟨r1, r2⟩ := put_row hp H.out.2.1 (by omega) H.out.2.2.1
        have H2 : Aside0 (Bk w5 w3.heap.size w3.heap.size (longK (j + 1)) v' ∧ Row8 w5 (w3.heap.size + 1) zs ∧ v'.ownBlock ≠ some (w3.heap.size + 1) ∧ Below w3.heap.size w3 w5) := ⟨hp.1, r1, r2, H.out.2.2.2.trans hp.2.2.2⟩
        clear hv hp r1 r2
        go_wp2_with fail
        go_roundw
        case rel => exact ⟨j + 1, v', by omega, by go_num, H2⟩
        case measure => simp [intOf]; omega
    · have hjN : ¬ j ≤ 16 := by omega
      have hlt' : ¬ (j : Int) < N := by omega
      have hK : longK j = ⟨[], false, true⟩ := by unfold longK; rw [if_neg hjN]
      have H1 := Aside0.mk H.out.1
      rw [hK] at H1
      have HB := Aside0.mk H.out.2.2.2
      have HC1 := Aside0.mk (Kd.C_below HC.out H.out.2.2.2)
      have d1 : decide (j < N) = false := decide_eq_false hlt
      clear H hK hjN
      have key := put_any w3.heap.size w3.heap.size ⟨[], false, true⟩ v ⟨false, true, q⟩ Q d wr H1.out (Nat.le_refl _) (by simp) (by rw [HQL.out]; exact HC1.out) (by rw [HQL.out]; exact hd)
      rw [show putN ⟨[], false, true⟩ ⟨false, true, q⟩ = (⟨[], false, true⟩, ([], false, 0)) by unfold putN; rw [if_pos ⟨rfl, rfl⟩]] at key
      simp only at key
      rw [HQL.out] at key
      have KEY := Aside0.mk key
      clear key
      go_wp2_with fail
      refine KEY.out.mono ?_
      rintro e w5 ⟨vo, v', rfl, hv, hp⟩
      obtain ⟨Qo, do_, rfl⟩ := Kd.R_slice hv
      have HB2 := Aside0.mk (HB.out.trans hp.2.2.2)
      have HC2 := Aside0.mk (Kd.C_below HC.out HB2.out)
      have key := put_any w3.heap.size w3.heap.size ⟨[], false, true⟩ v' ⟨true, true, q⟩ Q d w5 hp.1 (Nat.le_refl _) (by simp) (by rw [HQL.out]; exact HC2.out) (by rw [HQL.out]; exact hd)
      rw [show putN ⟨[], false, true⟩ ⟨true, true, q⟩ = (⟨[], false, false⟩, (q, true, 0)) by
        unfold putN
        rw [if_neg (by simp), if_neg (by simp [HQL.out]; omega), if_neg (by simp [HQL.out]; omega), if_pos rfl]
        rfl] at key
      simp only at key
      rw [HQL.out] at key
      have KEY := Aside0.mk key
      clear key hv hp HB HC1 H1
      go_wp2_with fail
      refine KEY.out.mono ?_
      rintro e w6 ⟨vo2, v2, rfl, hv, hp⟩
      obtain ⟨Q2, d2, rfl, hd2, hC2⟩ := Kd.R_reads hv
      rw [HQL.out] at hC2 hd2 ⊢
      have HB3 := Aside0.mk (HB2.out.trans hp.2.2.2)
      have HC3 := Aside0.mk (Kd.C_below HC.out HB3.out)
      have HC4 := Aside0.mk hC2
      clear hv hp hC2 HB2 HC2
      go_wp2_with fail
      refine (same_is true _ _ _ _ _ _ _ _ _ HC4.out hd2 HC3.out hd (by simp)).mono ?_
      rintro e w7 ⟨rfl, nd, rfl⟩
      go_wp2_with fail
      go_ret
      exact ⟨rfl, pw_below_drewN (below_step B3.out HB3.out) nd⟩
end Go.Proofs.Ytmhninlndjcikaa
