/- The walk of ClipCounts. -/
import Derived.Test.YtmhninlndjcikaaKd
namespace Go.Proofs.Ytmhninlndjcikaa
open Go.RowKit Go.Proofs.YtmhninlndjcikaaW.PrintWords Go.Proofs.YtmhninlndjcikaaW.PrintLast Go.Proofs.YtmhninlndjcikaaW.PrintMore
set_option linter.unusedVariables false
set_option linter.unusedSimpArgs false

/-- What a law asks of piece j of m. -/
theorem piece_facts {p : List Int} {m j : Nat} (hm : countN p.length = m) (hp : p.length ≤ 1024) (hlt : j < m) : ∃ (x : Pc), pieceN p m j = x ∧ x.f = decide (j = 0) ∧ ((j : Int) == 0) = x.f ∧ ((j : Int) == (m : Int) - 1) = x.l ∧ (x.l = decide (j + 1 = m)) ∧ (x.l = false → x.d.length = 64) ∧ x.d.length ≤ 64 ∧ p.take (64 * (j + 1)) = p.take (64 * j) ++ x.d ∧ (x.l = true → p.take (64 * (j + 1)) = p) := by
  have hm2 : m = max ((p.length + 63) / 64) 1 := hm.symm
  refine ⟨_, rfl, rfl, ?_, ?_, rfl, ?_, ?_, ?_, ?_⟩
  · show _ = decide (j = 0)
    rw [Bool.eq_iff_iff, beq_iff_eq, decide_eq_true_iff]; omega
  · show _ = decide (j + 1 = m)
    rw [Bool.eq_iff_iff, beq_iff_eq, decide_eq_true_iff]; omega
  · intro h
    have h : ¬ (j + 1 = m) := of_decide_eq_false h
    show ((p.drop (64 * j)).take 64).length = 64
    rw [List.length_take, List.length_drop]; omega
  · show ((p.drop (64 * j)).take 64).length ≤ 64
    rw [List.length_take]; omega
  · show _ = _ ++ (p.drop (64 * j)).take 64
    rw [show 64 * (j + 1) = 64 * j + 64 by omega, List.take_add]
  · intro h
    have h : j + 1 = m := of_decide_eq_true h
    exact List.take_of_length_le (by omega)

set_option maxRecDepth 100000 in
set_option maxHeartbeats 1000000 in
theorem counts_walk (n b : Int) (w : World) (hn : 0 ≤ n ∧ n < 65536) (hb : 0 ≤ b ∧ b < 256) :
    Calls Try.prog 3 #[.int .u16 n, .int .u8 b] w fun e w' => e = .returned (.bool true) ∧ Below w.heap.size w w' := by
  have e0 : n.tmod 1025 = n % 1025 := Int.tmod_eq_emod_of_nonneg hn.1
  have e1 : ((n % 1025) % 1100).toNat = (n % 1025).toNat := by omega
  have hk : (n % 1025).toNat ≤ 1024 := by omega
  have hb5 := bytes_any (n % 1025) b (by omega)
  rw [e1] at hb5
  generalize n % 1025 = n1 at *
  generalize n1.toNat = k at *
  have HB5 := fun w => Aside0.mk (hb5 w)
  clear hb5 e1 hb
  go_enter Try.func3, Try.ntmps3
  go_wp2_with fail
  refine (awake_any _).mono ?_
  rintro e w1 ⟨rfl, hb1⟩
  have B1 := Aside0.mk hb1
  clear hb1
  go_wp2_with fail
  refine (HB5 _).out.mono ?_
  rintro e w2 ⟨A, rfl, hC, hb2⟩
  have B2 := Aside0.mk (below_step B1.out hb2)
  have P2 := Aside0.mk hC
  clear B1 hC hb2 HB5
  have hl : (runB b k).length = k := runB_length b k
  obtain ⟨p, hp⟩ : ∃ p, runB b k = p := ⟨_, rfl⟩
  rw [hp] at P2 hl
  clear hp e0
  go_wp2_with fail
  refine (split_any _ k k _ _ P2.out (Nat.le_refl _) hk).mono ?_
  rintro e w3 ⟨v, rfl, ho, hb3⟩
  have B3 := Aside0.mk (below_step B2.out hb3)
  have P3 := Aside0.mk (Kd.C_below P2.out hb3)
  clear P2 B2 hb3
  obtain ⟨Q, d, rfl, hd, hC⟩ := Kd.R_reads ho
  obtain ⟨L, hL⟩ : ∃ L, pieces p = L := ⟨_, rfl⟩
  rw [hL] at hC hd
  rw [hL]
  have HL := Aside0.mk hL
  have HC := Aside0.mk hC
  have hLm : L.length = countN k := by rw [← hL, pieces_length, hl]
  clear hC ho hL
  generalize hm : countN k = m at *
  have HM := Aside0.mk hm
  have hm1 : m ≤ 16 := by rw [← hm]; exact countN_le hk
  clear hm
  rw [hLm] at hd HC ⊢
  go_wp2_with fail
  go_loopw [8, 24] (fun v8 v24 wr => ∃ (j : Nat), j ≤ m ∧ v24 = .int .i64 j ∧ Aside0 ((Kd.int .u8).R 5 wr w3.heap.size (fun _ => True) v8 (p.take (64 * j)) ∧ Below w3.heap.size w3 wr)) (fun _ v24 _ => m - (intOf v24).toNat)
  case atStart => exact ⟨0, by omega, rfl, ⟨by simpa using Kd.R_nil _ _ _ _ _, Below.refl _ _⟩⟩
  case round =>
    obtain ⟨j, hj, rfl, H⟩ := hrel
    by_cases hlt : j < m
    · obtain ⟨x, hx, f1, f2, f3, f3b, f4, f5, f6, f7⟩ := piece_facts (p := p) (by rw [hl]; exact HM.out) (by rw [hl]; exact hk) hlt
      obtain ⟨ad, B, c, hQ, x0, x1, x2, hxc, hxd⟩ := piece_at (Kd.C_below HC.out H.out.2) j (by omega)
      have hxx : L[j]'(by omega) = x := by
        have : ∀ (h : j < L.length), L[j] = x := by
          rw [← HL.out]; intro h
          rw [pieces_get, hl, HM.out, hx]
        exact this _
      rw [hxx] at x0 x1 x2 hxc hxd
      obtain ⟨fb, lb, q⟩ := x
      simp only at x0 x1 x2 hxc hxd f1 f2 f3 f3b f4 f5 f6 f7
      have F6 := Aside0.mk f6
      obtain ⟨dl, hdl⟩ : ∃ dl, q.length = dl := ⟨_, rfl⟩
      rw [hdl] at hxd x2 hxc f4 f5
      have HD := Aside0.mk hxd
      subst hQ
      have dq : decide (64 < (dl : Int)) = false := decide_eq_false (by omega)
      have dq' : ¬ (64 : Int) < dl := by omega
      have hB4 := Aside0.mk (below_alloc H.out.2 (.cells #[.bool fb, .bool lb, .slice B dl c] 31))
      have hO4 := Aside0.mk (Kd.R_below H.out.1 (below_alloc (Below.refl _ _) (.cells #[.bool fb, .bool lb, .slice B dl c] 31)))
      have hD4 := Aside0.mk (Kd.C_alloc HD.out (.cells #[.bool fb, .bool lb, .slice B dl c] 31))
      have hlen : ((p.take (64 * j)).length + dl) * 1 ≤ 140737488355328 := by rw [List.length_take]; omega
      have HLEN := Aside0.mk hlen
      clear hx hxx f1 f3b f6 f7 hxd hlen HD hdl
      cases lb
      case false =>
        obtain rfl : dl = 64 := f4 rfl
        clear f4 dq dq'
        go_wp2_with (at_builtin; go_loud (refine R_app .u8 (w0 := w3) w3.heap.size rfl (.tmp 61) (.tmp 63) 24 5 1 rfl Try.underlying24 wx_info5 (by decide) u8 (p.take (64 * j)) q B 64 c (fun _ => True) rfl rfl hO4.out hD4.out (fun _ _ => trivial) hB4.out hB4.out.size HLEN.out ?_))
        intro v1 w5 ho hb _ _
        rw [← F6.out] at ho
        have HO := Aside0.mk ho
        have HB := Aside0.mk hb
        clear ho hb
        go_wp2_with fail
        go_roundw
        case rel => exact ⟨j + 1, by omega, by go_num, ⟨HO.out, HB.out⟩⟩
        case measure => simp [intOf]; omega
      case true =>
        clear f4
        go_wp2_with (at_builtin; go_loud (refine R_app .u8 (w0 := w3) w3.heap.size rfl (.tmp 61) (.tmp 63) 24 5 1 rfl Try.underlying24 wx_info5 (by decide) u8 (p.take (64 * j)) q B dl c (fun _ => True) rfl rfl hO4.out hD4.out (fun _ _ => trivial) hB4.out hB4.out.size HLEN.out ?_))
        intro v1 w5 ho hb _ _
        rw [← F6.out] at ho
        have HO := Aside0.mk ho
        have HB := Aside0.mk hb
        clear ho hb
        go_wp2_with fail
        go_roundw
        case rel => exact ⟨j + 1, by omega, by go_num, ⟨HO.out, HB.out⟩⟩
        case measure => simp [intOf]; omega
    · have hjm : j = m := by omega
      have htk : p.take (64 * j) = p := by
        apply List.take_of_length_le
        have := HM.out
        unfold countN at this
        omega
      have HO := H.out.1
      rw [htk] at HO
      have hd2 := decide_eq_false hlt
      clear htk hjm hj
      obtain ⟨Q2, d2, rfl, hdl, hC2⟩ := Kd.R_reads HO
      have HC2 := Aside0.mk hC2
      have HP2 := Aside0.mk (Kd.C_below P3.out H.out.2)
      have HB2 := Aside0.mk (below_step B3.out H.out.2)
      rw [hl] at HC2 hdl ⊢
      clear H hC2 HO P3
      go_wp2_with fail
      refine (count_any k hk _).mono ?_
      rintro e w5 ⟨rfl, hb5⟩
      rw [HM.out]
      have HC3 := Aside0.mk (Kd.C_below HC2.out hb5)
      have HP3 := Aside0.mk (Kd.C_below HP2.out hb5)
      have HB3 := Aside0.mk (below_step HB2.out hb5)
      clear hb5 HC2 HP2 HB2
      go_wp2_with fail
      refine (same_is true _ _ _ _ _ _ _ _ _ HC3.out hdl HP3.out (Nat.le_refl _) (by simp)).mono ?_
      rintro e w6 ⟨rfl, nd, rfl⟩
      go_wp2_with fail
      go_ret
      exact ⟨rfl, pw_below_drewN HB3.out nd⟩
end Go.Proofs.Ytmhninlndjcikaa
