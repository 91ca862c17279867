/- The walk of ClipSplits. -/
import Derived.Test.YtmhninlndjcikaaK4
import Derived.Test.YtmhninlndjcikaaKs
import Derived.Test.YtmhninlndjcikaaO
namespace Go.Proofs.Ytmhninlndjcikaa
open Go.RowKit Go.Proofs.YtmhninlndjcikaaW.PrintWords Go.Proofs.YtmhninlndjcikaaW.PrintLast Go.Proofs.YtmhninlndjcikaaW.PrintMore
set_option linter.unusedVariables false
set_option linter.unusedSimpArgs false

theorem want_length (p : List Int) : (want p).length = countN p.length := by simp [want, pieces]
theorem want_get {p : List Int} {j : Nat} (h : j < (want p).length) : rd_T49 (want p) (j : Int) = ⟨(pieceN p (countN p.length) j).f, (pieceN p (countN p.length) j).l, (pieceN p (countN p.length) j).d⟩ := by
  rw [rd_getS h]
  simp [want, pieces_get]

set_option maxRecDepth 100000 in
set_option maxHeartbeats 8000000 in
theorem splits_walk (n b : Int) (A : Option Addr) (len c : Nat) (l : List Pc) (w : World) (hn : 0 ≤ n ∧ n < 65536) (hb : 0 ≤ b ∧ b < 256) (hr : kP.C w A len l) (hc : len ≤ c) :
    Calls Try.prog 7 #[.int .u16 n, .int .u8 b, .slice A len c] w fun e w' => e = .returned (.bool true) ∧ Below w.heap.size w w' := by
  have HR := Aside0.mk hr
  have HN := Aside0.mk hn
  clear hr hb hn
  go_enter Try.func7, Try.ntmps7
  go_wp2_with fail
  refine (awake_any _).mono ?_
  rintro e w1 ⟨rfl, hb1⟩
  have B1 := Aside0.mk hb1
  clear hb1
  go_wp2_with fail
  refine (bytes_any n b HN.out _).mono ?_
  rintro e w2 ⟨PA, rfl, hC, hb2⟩
  have B2 := Aside0.mk (below_step B1.out hb2)
  obtain ⟨p, hp, hpl⟩ : ∃ p, (Kd.int .u8).C w2 PA (n % 1100).toNat p ∧ p.length = (n % 1100).toNat := ⟨_, hC, runB_length _ _⟩
  have hk0 : (n % 1100).toNat < 1100 := by have := HN.out; omega
  generalize (n % 1100).toNat = k at *
  have P2 := Aside0.mk hp
  clear hC hp hb2 B1
  by_cases hk : 1024 < k
  · have d1 : decide ((1024 : Int) < k) = true := decide_eq_true (by omega)
    have d1' : (1024 : Int) < k := by omega
    have HK := Aside0.mk hk
    clear hk
    go_wp2_with fail
    refine (split_long PA k k _ HK.out).mono ?_
    rintro e w3 ⟨rfl, hb3⟩
    have B3 := Aside0.mk (below_step B2.out hb3)
    clear hb3
    go_wp2_with fail
    refine (count_big k (.inr (by have := HK.out; omega)) _).mono ?_
    rintro e w4 ⟨rfl, hb4⟩
    have B4 := Aside0.mk (below_step B3.out hb4)
    clear hb4
    go_wp2_with fail
    go_ret
    exact ⟨rfl, B4.out⟩
  · have hk' : k ≤ 1024 := by omega
    have d1 : decide ((1024 : Int) < k) = false := decide_eq_false (by omega)
    have d1' : ¬ (1024 : Int) < k := by omega
    clear hk hk0
    go_wp2_with fail
    refine (split_any PA k k p _ P2.out (Nat.le_refl _) hk').mono ?_
    rintro e w3 ⟨vL, rfl, ho, hb3⟩
    have B3 := Aside0.mk (below_step B2.out hb3)
    have P3 := Aside0.mk (Kd.C_below P2.out hb3)
    obtain ⟨Q, d, rfl, hd, hCL⟩ := Kd.R_reads ho
    obtain ⟨L, hL⟩ : ∃ L, pieces p = L := ⟨_, rfl⟩
    have hLm : L.length = countN k := by rw [← hL, pieces_length, hpl]
    obtain ⟨m, hm⟩ : ∃ m, countN k = m := ⟨_, rfl⟩
    have hm1 : m ≤ 16 := by rw [← hm]; exact countN_le hk'
    rw [hL] at hd hCL ⊢
    rw [hm] at hLm
    rw [hLm] at hd hCL ⊢
    have L3 := Aside0.mk hCL
    have HLL := Aside0.mk hLm
    have HL2 := Aside0.mk hL
    have HM := Aside0.mk hm
    have HPL := Aside0.mk hpl
    clear ho hCL hb3 P2 B2 hL hm hpl hLm
    go_wp2_with fail
    refine (refsplit_any PA k k p _ P3.out (Nat.le_refl _) hk').mono ?_
    rintro e w4 ⟨WQ, wd, rfl, hwd, hCw, hb4⟩
    have hwl : (want p).length = m := by rw [want_length, HPL.out, HM.out]
    rw [hwl] at hwd hCw ⊢
    have HWL := Aside0.mk hwl
    have B4 := Aside0.mk (below_step B3.out hb4)
    have P4 := Aside0.mk (Kd.C_below P3.out hb4)
    have L4 := Aside0.mk (Kd.C_below L3.out hb4)
    have W4 := Aside0.mk hCw
    clear hCw hb4 B3 P3 L3 hwl
    go_wp2_with fail
    refine (count_any k hk' _).mono ?_
    rintro e w5 ⟨rfl, hb5⟩
    rw [HM.out]
    have B5 := Aside0.mk (below_step B4.out hb5)
    have P5 := Aside0.mk (Kd.C_below P4.out hb5)
    have L5 := Aside0.mk (Kd.C_below L4.out hb5)
    have W5 := Aside0.mk (Kd.C_below W4.out hb5)
    clear hb5 B4 P4 L4 W4
    have HT := Aside0.mk (below_alloc (Below.refl w5.heap.size w5) (.cells #[.slice none 0 0, .bool false, .bool false] 37))
    have K6 : Aside0 (Bk (w5.alloc (.cells #[.slice none 0 0, .bool false, .bool false] 37)) w5.heap.size w5.heap.size B0 (.slice none 0 0)) := ⟨⟨blk_new _ _, Kd.R_nil _ _ _ _ _⟩⟩
    go_wp2_with fail
    generalize w5.alloc (.cells #[.slice none 0 0, .bool false, .bool false] 37) = W at *
    go_loopw [66] (fun v66 wr => ∃ (j : Nat) (v : Value) (kk : Bs), j ≤ len ∧ v66 = .int .i64 j ∧ Aside0 (Put' W wr w5.heap.size w5.heap.size (.slice none 0 0) kk v ∧ kk.p.length ≤ 1024)) (fun v66 _ => len - (intOf v66).toNat)
    case atStart => exact ⟨0, _, B0, by omega, rfl, ⟨⟨K6.out, KeepBut.refl _ _ _, .inr (.inl rfl), Below.refl _ _⟩, by simp [B0]⟩⟩
    case round =>
      clear K6
      obtain ⟨j, v, kk, hj, rfl, H⟩ := hrel
      have HB := Aside0.mk (B5.out.trans ((HT.out.trans H.out.1.2.2.2).mono B5.out.size))
      by_cases hlt : j < len
      · have hll : l.length = len := HR.out.1
        obtain ⟨ad, B, cB, hA, x0, x1, x2, hxc, hxd⟩ := piece_at (Kd.C_below HR.out HB.out) j (by omega)
        generalize l[j]'(by omega) = x at *
        have key := put_any w5.heap.size w5.heap.size kk v x B cB (wr.alloc (.cells #[.bool x.f, .bool x.l, .slice B x.d.length cB] 31)) (H.out.1.1.alloc _) (Nat.le_refl _) H.out.2 (Kd.C_alloc hxd _) hxc
        have KEY := Aside0.mk key
        have HX := Aside0.mk (H.out.1.trans (put_below H.out.1.1 (Nat.le_refl _) (below_alloc (Below.refl _ _) (.cells #[.bool x.f, .bool x.l, .slice B x.d.length cB] 31))))
        have HLEN := Aside0.mk (putN_len (x := x) H.out.2)
        obtain ⟨fb, lb, q⟩ := x
        simp only at x0 x1 x2 hxc hxd KEY HX HLEN
        generalize q.length = dl at *
        subst hA
        have d2 : decide (j < len) = true := decide_eq_true hlt
        clear hxd key
        by_cases h20 : j < 20
        · have h20' : (j : Int) < 20 := by omega
          have d3 : decide ((j : Int) < 20) = true := decide_eq_true h20'
          have HK := Aside0.mk h20
          clear h20 hll
          go_wp2_with fail
          refine KEY.out.mono ?_
          rintro e w7 ⟨vo, v3, rfl, hv, hp⟩
          obtain ⟨Qo, do_, rfl⟩ := Kd.R_slice hv
          have H7 := Aside0.mk (And.intro (HX.out.trans hp) HLEN.out)
          clear hv hp KEY HX
          go_wp2_with fail
          go_roundw
          case rel => exact ⟨j + 1, v3, _, by omega, by go_num, H7⟩
          case measure => simp [intOf]; omega
        · have h20' : ¬ (j : Int) < 20 := by omega
          have d3 : decide ((j : Int) < 20) = false := decide_eq_false h20'
          clear h20 hll KEY
          have hmx : len ≤ 9223372036854775807 := HR.out.2.1
          go_wp2_with fail
          go_roundw
          case rel => exact ⟨j + 1, v, kk, by omega, by go_num, ⟨HX.out, H.out.2⟩⟩
          case measure => simp [intOf]; omega
      · have d2 : decide (j < len) = false := decide_eq_false hlt
        clear HB
        go_wp2_with fail
        refine (clear_any w5.heap.size w5.heap.size kk v wr H.out.1.1 (Nat.le_refl _)).mono ?_
        rintro e w7 ⟨rfl, hp⟩
        have H7 := Aside0.mk (H.out.1.trans hp)
        clear hp H
        go_wp2_with fail
        go_loopw [79] (fun v79 wr => ∃ (j : Nat) (v2 : Value), j ≤ m ∧ v79 = .int .i64 j ∧ Aside0 (Put' W wr w5.heap.size w5.heap.size (.slice none 0 0) (rowK p m j) v2)) (fun v79 _ => m - (intOf v79).toNat)
        case atStart => exact ⟨0, _, by omega, rfl, ⟨by unfold rowK; rw [if_pos (.inl rfl)]; exact H7.out⟩⟩
        case round =>
          clear H7
          obtain ⟨j, v2, hj, rfl, J⟩ := hrel
          have HBg := Aside0.mk (HT.out.trans J.out.2.2.2)
          have HB := Aside0.mk (B5.out.trans (HBg.out.mono B5.out.size))
          by_cases hlt2 : j < m
          · have L6 := Aside0.mk (Kd.C_below L5.out HBg.out)
            have W6 := Aside0.mk (Kd.C_below W5.out HBg.out)
            have P6 := Aside0.mk (Kd.C_below P5.out HBg.out)
            obtain ⟨x, hx, f1, f2, f3, f3b, f4, f5, f6, f7⟩ := piece_facts (p := p) (by rw [HPL.out]; exact HM.out) (by rw [HPL.out]; exact hk') hlt2
            have hput := rowK_put (p := p) (by rw [HPL.out]; exact HM.out) (by rw [HPL.out]; exact hk') hlt2
            rw [hx] at hput
            obtain ⟨ad2, B, c2, hQ, x0, x1, x2, hxc, hxd⟩ := piece_at L6.out j (by rw [HLL.out]; exact hlt2)
            have hxx : L[j]'(by rw [HLL.out]; exact hlt2) = x := by
              have : ∀ (h : j < L.length), L[j] = x := by
                rw [← HL2.out]; intro h
                rw [pieces_get, HPL.out, HM.out, hx]
              exact this _
            rw [hxx] at x0 x1 x2 hxc hxd
            obtain ⟨wad, B2, c3, hWQ, y0, y1, y2, hyc, hyd⟩ := at_T49 W6.out (j : Int) (by omega) (by omega)
            rw [want_get (by rw [HWL.out]; exact hlt2), HPL.out, HM.out, hx] at y0 y1 y2 hyc hyd
            simp only [Int.toNat_natCast] at y0 y1 y2 hyc hyd
            have hop : (rowK p m (j + 1)).op = !x.l := by
              rw [f3b]
              unfold rowK B0
              by_cases h : j + 1 = m
              · rw [if_pos (.inr h)]; simp [h]
              · rw [if_neg (by omega)]; simp [h]
            obtain ⟨fb, lb, q⟩ := x
            simp only at x0 x1 x2 hxc hxd y0 y1 y2 hyc hyd f3 f3b hop
            generalize hdl : q.length = dl at *
            have HDL := Aside0.mk hdl
            have hj1 : (j + 1 = m ∧ lb = true) ∨ (¬ j + 1 = m ∧ lb = false) := by
              by_cases h : j + 1 = m
              · exact .inl ⟨h, by rw [f3b]; exact decide_eq_true h⟩
              · exact .inr ⟨h, by rw [f3b]; exact decide_eq_false h⟩
            have HJ1 := Aside0.mk hj1
            have HPUT := Aside0.mk hput
            have HXD := Aside0.mk (Kd.C_alloc hxd (.cells #[.bool fb, .bool lb, .slice B dl c2] 31))
            have HYD := Aside0.mk (Kd.C_alloc hyd (.cells #[.bool fb, .bool lb, .slice B dl c2] 31))
            have HXC := Aside0.mk hxc
            have HYC := Aside0.mk hyc
            have HOP := Aside0.mk hop
            have JA := Aside0.mk (J.out.trans (put_below J.out.1 (Nat.le_refl _) (below_alloc (Below.refl _ _) (.cells #[.bool fb, .bool lb, .slice B dl c2] 31))))
            have G0 := Aside0.mk (blk_new wr (.cells #[.bool fb, .bool lb, .slice B dl c2] 31))
            have Y0 := Aside0.mk (pw_cell_below (below_alloc (Below.refl _ _) (.cells #[.bool fb, .bool lb, .slice B dl c2] 31)) y0)
            have Y1 := Aside0.mk (pw_cell_below (below_alloc (Below.refl _ _) (.cells #[.bool fb, .bool lb, .slice B dl c2] 31)) y1)
            have Y2 := Aside0.mk (pw_cell_below (below_alloc (Below.refl _ _) (.cells #[.bool fb, .bool lb, .slice B dl c2] 31)) y2)
            have d2 : decide (j < m) = true := decide_eq_true hlt2
            have E3 := Aside0.mk f3
            have P7 := Aside0.mk (Kd.C_alloc P6.out (.cells #[.bool fb, .bool lb, .slice B dl c2] 31))
            subst hQ
            subst hWQ
            clear hx f1 f2 f3 f3b f4 f5 f6 f7 hput hxd hxx hop hyd y0 y1 y2 hdl hyc hj1
            go_wp2_with fail
            have hjm : (j : Int) < m := by omega
            have hwm : m ≤ wd := hwd
            generalize hV : wr.alloc (.cells #[.bool fb, .bool lb, .slice B dl c2] 31) = V at *
            generalize hgx : wr.heap.size = gx at *
            try go_frame
            refine region_grown (W := V)
              [fun (w : World) (v : Value) => v = .pointer (some ⟨gx, 0, none⟩),
   fun (w : World) (v : Value) => v = .bool fb,
   fun (w : World) (v : Value) => v = .slice (some wad) m wd,
   fun (w : World) (v : Value) => v = .int .i64 j,
   fun (w : World) (v : Value) => v = .pointer (some (wad.add (j * 3))),
   fun (w : World) (v : Value) => v = .pointer (some (wad.add (j * 3))),
   fun (w : World) (v : Value) => v = .bool fb,
   fun (w : World) (v : Value) => v = .bool false,
   fun (w : World) (v : Value) => v = .bool false,
   fun (w : World) (v : Value) => v = .pointer (some ⟨gx, 1, none⟩),
   fun (w : World) (v : Value) => v = .bool lb,
   fun (w : World) (v : Value) => v = .slice (some wad) m wd,
   fun (w : World) (v : Value) => v = .int .i64 j,
   fun (w : World) (v : Value) => v = .pointer (some (wad.add (j * 3))),
   fun (w : World) (v : Value) => v = .pointer (some ⟨(wad.add (j * 3)).block, (wad.add (j * 3)).off + 1, none⟩),
   fun (w : World) (v : Value) => v = .bool lb,
   fun (w : World) (v : Value) => v = .bool false,
   fun (w : World) (v : Value) => v = .bool false,
   fun (w : World) (v : Value) => v = .bool false,
   fun (w : World) (v : Value) => v = .pointer (some ⟨gx, 2, none⟩),
   fun (w : World) (v : Value) => v = .slice B dl c2,
   fun (w : World) (v : Value) => v = .slice (some wad) m wd,
   fun (w : World) (v : Value) => v = .int .i64 j,
   fun (w : World) (v : Value) => v = .pointer (some (wad.add (j * 3))),
   fun (w : World) (v : Value) => v = .pointer (some ⟨(wad.add (j * 3)).block, (wad.add (j * 3)).off + 2, none⟩),
   fun (w : World) (v : Value) => v = .slice B2 dl c3,
   fun (w : World) (v : Value) => v = .bool true,
   fun (w : World) (v : Value) => v = .bool false,
   fun (w : World) (v : Value) => v = .bool false]
              (fun j => if j = 8 then some false else if j = 18 then some false else none)
              [(0, some 84), (1, some 85), (2, some 86), (3, some 87), (4, some 88), (5, some 89), (6, some 90), (7, some 91), (8, some 92), (9, some 93), (10, some 94), (11, some 95), (12, some 96), (13, some 97), (14, some 98), (15, some 99), (16, some 100), (17, some 101), (18, some 102), (19, some 103), (20, some 104), (21, some 105), (22, some 106), (23, some 107), (24, some 108), (25, some 109), (26, some 110), (27, some 111), (28, some 112)]
              [8, 18]
              (by kernel_rfl) (by kernel_rfl) (by kernel_rfl) (by kernel_rfl) ?r21_1g ?r21_1s ⟨?r21_1o0, ?r21_1o1, ?r21_1o2, ?r21_1o3, ?r21_1o4, ?r21_1o5, ?r21_1o6, ?r21_1o7, ?r21_1o8, ?r21_1o9, ?r21_1o10, ?r21_1o11, ?r21_1o12, ?r21_1o13, ?r21_1o14, ?r21_1o15, ?r21_1o16, ?r21_1o17, ?r21_1o18, ?r21_1o19, ?r21_1o20, ?r21_1o21, ?r21_1o22, ?r21_1o23, ?r21_1o24, ?r21_1o25, ?r21_1o26, ?r21_1o27, ?r21_1o28, trivial⟩ ?r21_1e
            case r21_1g =>
              intro j hj w v hv
              simp only [List.mem_cons, List.not_mem_nil, or_false] at hj
              rcases hj with rfl | rfl
              · have hv' : v = .bool false := hv; rw [hv']; rfl
              · have hv' : v = .bool false := hv; rw [hv']; rfl
            case r21_1s =>
              refine ⟨(fun w w' v hb h => h), (fun w w' v hb h => h), (fun w w' v hb h => h), (fun w w' v hb h => h), (fun w w' v hb h => h), (fun w w' v hb h => h), (fun w w' v hb h => h), (fun w w' v hb h => h), (fun w w' v hb h => h), (fun w w' v hb h => h), (fun w w' v hb h => h), (fun w w' v hb h => h), (fun w w' v hb h => h), (fun w w' v hb h => h), (fun w w' v hb h => h), (fun w w' v hb h => h), (fun w w' v hb h => h), (fun w w' v hb h => h), (fun w w' v hb h => h), (fun w w' v hb h => h), (fun w w' v hb h => h), (fun w w' v hb h => h), (fun w w' v hb h => h), (fun w w' v hb h => h), (fun w w' v hb h => h), (fun w w' v hb h => h), (fun w w' v hb h => h), (fun w w' v hb h => h), (fun w w' v hb h => h), trivial⟩
            case r21_1o0 =>
              intro vs w hb hV
              rw [if_pos (by kernel_rfl)]
              generalize hρ : rho _ _ _ vs = ρ
              have e15 : ρ (.tmp 15) = .pointer (some ⟨gx, 0, none⟩) := by rw [← hρ]; kernel_rfl
              clear hρ hV
              refine runs_val (v := .pointer (some ⟨gx, 0, none⟩)) (w' := w) ?_ ⟨Below.refl _ _, rfl⟩
              go_simp <;> (first | exact IntWalk.u64_in _ (by omega) | exact IntWalk.u32_in _ (by omega) | exact IntWalk.u16_in _ (by omega) | exact IntWalk.u8_in _ (by omega) | exact IntWalk.i64_in _ (by omega) | skip)
            case r21_1o1 =>
              intro vs w hb hV
              rw [if_pos (by kernel_rfl)]
              generalize hρ : rho _ _ _ vs = ρ
              have d84 : (vs 0) = .pointer (some ⟨gx, 0, none⟩) := hV 0 (by kernel_rfl)
              have e84 : ρ (.tmp 84) = vs 0 := by rw [← hρ]; kernel_rfl
              rw [d84] at e84; clear d84
              clear hρ hV
              have c0 := pw_cell_below hb (blk_cell G0.out 0)
              refine runs_val (v := .bool fb) (w' := w) ?_ ⟨Below.refl _ _, rfl⟩
              go_simp
            case r21_1o2 =>
              intro vs w hb hV
              rw [if_pos (by kernel_rfl)]
              generalize hρ : rho _ _ _ vs = ρ
              have e10 : ρ (.tmp 10) = .slice (some wad) m wd := by rw [← hρ]; kernel_rfl
              clear hρ hV
              refine runs_val (v := .slice (some wad) m wd) (w' := w) ?_ ⟨Below.refl _ _, rfl⟩
              go_simp <;> (first | exact IntWalk.u64_in _ (by omega) | exact IntWalk.u32_in _ (by omega) | exact IntWalk.u16_in _ (by omega) | exact IntWalk.u8_in _ (by omega) | exact IntWalk.i64_in _ (by omega) | skip)
            case r21_1o3 =>
              intro vs w hb hV
              rw [if_pos (by kernel_rfl)]
              generalize hρ : rho _ _ _ vs = ρ
              have e14 : ρ (.tmp 14) = .int .i64 j := by rw [← hρ]; kernel_rfl
              clear hρ hV
              refine runs_val (v := .int .i64 j) (w' := w) ?_ ⟨Below.refl _ _, rfl⟩
              go_simp <;> (first | exact IntWalk.u64_in _ (by omega) | exact IntWalk.u32_in _ (by omega) | exact IntWalk.u16_in _ (by omega) | exact IntWalk.u8_in _ (by omega) | exact IntWalk.i64_in _ (by omega) | skip)
            case r21_1o4 =>
              intro vs w hb hV
              rw [if_pos (by kernel_rfl)]
              generalize hρ : rho _ _ _ vs = ρ
              have d86 : (vs 2) = .slice (some wad) m wd := hV 2 (by kernel_rfl)
              have e86 : ρ (.tmp 86) = vs 2 := by rw [← hρ]; kernel_rfl
              rw [d86] at e86; clear d86
              have d87 : (vs 3) = .int .i64 j := hV 3 (by kernel_rfl)
              have e87 : ρ (.tmp 87) = vs 3 := by rw [← hρ]; kernel_rfl
              rw [d87] at e87; clear d87
              clear hρ hV
              refine runs_val (v := .pointer (some (wad.add (j * 3)))) (w' := w) ?_ ⟨Below.refl _ _, rfl⟩
              go_simp <;> (first | exact IntWalk.u64_in _ (by omega) | exact IntWalk.u32_in _ (by omega) | exact IntWalk.u16_in _ (by omega) | exact IntWalk.u8_in _ (by omega) | exact IntWalk.i64_in _ (by omega) | skip)
            case r21_1o5 =>
              intro vs w hb hV
              rw [if_pos (by kernel_rfl)]
              generalize hρ : rho _ _ _ vs = ρ
              have d88 : (vs 4) = .pointer (some (wad.add (j * 3))) := hV 4 (by kernel_rfl)
              have e88 : ρ (.tmp 88) = vs 4 := by rw [← hρ]; kernel_rfl
              rw [d88] at e88; clear d88
              clear hρ hV
              refine runs_val (v := .pointer (some (wad.add (j * 3)))) (w' := w) ?_ ⟨Below.refl _ _, rfl⟩
              go_simp <;> (first | exact IntWalk.u64_in _ (by omega) | exact IntWalk.u32_in _ (by omega) | exact IntWalk.u16_in _ (by omega) | exact IntWalk.u8_in _ (by omega) | exact IntWalk.i64_in _ (by omega) | skip)
            case r21_1o6 =>
              intro vs w hb hV
              rw [if_pos (by kernel_rfl)]
              generalize hρ : rho _ _ _ vs = ρ
              have d89 : (vs 5) = .pointer (some (wad.add (j * 3))) := hV 5 (by kernel_rfl)
              have e89 : ρ (.tmp 89) = vs 5 := by rw [← hρ]; kernel_rfl
              rw [d89] at e89; clear d89
              clear hρ hV
              have c0 := pw_cell_below hb Y0.out
              refine runs_val (v := .bool fb) (w' := w) ?_ ⟨Below.refl _ _, rfl⟩
              go_simp
            case r21_1o7 =>
              intro vs w hb hV
              rw [if_pos (by kernel_rfl)]
              generalize hρ : rho _ _ _ vs = ρ
              have d85 : (vs 1) = .bool fb := hV 1 (by kernel_rfl)
              have e85 : ρ (.tmp 85) = vs 1 := by rw [← hρ]; kernel_rfl
              rw [d85] at e85; clear d85
              have d90 : (vs 6) = .bool fb := hV 6 (by kernel_rfl)
              have e90 : ρ (.tmp 90) = vs 6 := by rw [← hρ]; kernel_rfl
              rw [d90] at e90; clear d90
              clear hρ hV
              refine runs_val (v := .bool false) (w' := w) ?_ ⟨Below.refl _ _, rfl⟩
              go_simp <;> (first | exact IntWalk.u64_in _ (by omega) | exact IntWalk.u32_in _ (by omega) | exact IntWalk.u16_in _ (by omega) | exact IntWalk.u8_in _ (by omega) | exact IntWalk.i64_in _ (by omega) | skip)
            case r21_1o8 =>
              intro vs w hb hV
              rw [if_pos (by kernel_rfl)]
              generalize hρ : rho _ _ _ vs = ρ
              have d91 : (vs 7) = .bool false := hV 7 (by kernel_rfl)
              have e91 : ρ (.tmp 91) = vs 7 := by rw [← hρ]; kernel_rfl
              clear hρ hV
              refine runs_val (v := vs 7) (w' := w) ?_ ⟨Below.refl _ _, d91⟩
              go_simp
            case r21_1o9 =>
              intro vs w hb hV
              rw [if_pos (by kernel_rfl)]
              generalize hρ : rho _ _ _ vs = ρ
              have e15 : ρ (.tmp 15) = .pointer (some ⟨gx, 0, none⟩) := by rw [← hρ]; kernel_rfl
              clear hρ hV
              refine runs_val (v := .pointer (some ⟨gx, 1, none⟩)) (w' := w) ?_ ⟨Below.refl _ _, rfl⟩
              go_simp <;> (first | exact IntWalk.u64_in _ (by omega) | exact IntWalk.u32_in _ (by omega) | exact IntWalk.u16_in _ (by omega) | exact IntWalk.u8_in _ (by omega) | exact IntWalk.i64_in _ (by omega) | skip)
            case r21_1o10 =>
              intro vs w hb hV
              rw [if_pos (by kernel_rfl)]
              generalize hρ : rho _ _ _ vs = ρ
              have d93 : (vs 9) = .pointer (some ⟨gx, 1, none⟩) := hV 9 (by kernel_rfl)
              have e93 : ρ (.tmp 93) = vs 9 := by rw [← hρ]; kernel_rfl
              rw [d93] at e93; clear d93
              clear hρ hV
              have c0 := pw_cell_below hb (blk_cell G0.out 1)
              refine runs_val (v := .bool lb) (w' := w) ?_ ⟨Below.refl _ _, rfl⟩
              go_simp
            case r21_1o11 =>
              intro vs w hb hV
              rw [if_pos (by kernel_rfl)]
              generalize hρ : rho _ _ _ vs = ρ
              have e10 : ρ (.tmp 10) = .slice (some wad) m wd := by rw [← hρ]; kernel_rfl
              clear hρ hV
              refine runs_val (v := .slice (some wad) m wd) (w' := w) ?_ ⟨Below.refl _ _, rfl⟩
              go_simp <;> (first | exact IntWalk.u64_in _ (by omega) | exact IntWalk.u32_in _ (by omega) | exact IntWalk.u16_in _ (by omega) | exact IntWalk.u8_in _ (by omega) | exact IntWalk.i64_in _ (by omega) | skip)
            case r21_1o12 =>
              intro vs w hb hV
              rw [if_pos (by kernel_rfl)]
              generalize hρ : rho _ _ _ vs = ρ
              have e14 : ρ (.tmp 14) = .int .i64 j := by rw [← hρ]; kernel_rfl
              clear hρ hV
              refine runs_val (v := .int .i64 j) (w' := w) ?_ ⟨Below.refl _ _, rfl⟩
              go_simp <;> (first | exact IntWalk.u64_in _ (by omega) | exact IntWalk.u32_in _ (by omega) | exact IntWalk.u16_in _ (by omega) | exact IntWalk.u8_in _ (by omega) | exact IntWalk.i64_in _ (by omega) | skip)
            case r21_1o13 =>
              intro vs w hb hV
              rw [if_pos (by kernel_rfl)]
              generalize hρ : rho _ _ _ vs = ρ
              have d95 : (vs 11) = .slice (some wad) m wd := hV 11 (by kernel_rfl)
              have e95 : ρ (.tmp 95) = vs 11 := by rw [← hρ]; kernel_rfl
              rw [d95] at e95; clear d95
              have d96 : (vs 12) = .int .i64 j := hV 12 (by kernel_rfl)
              have e96 : ρ (.tmp 96) = vs 12 := by rw [← hρ]; kernel_rfl
              rw [d96] at e96; clear d96
              clear hρ hV
              refine runs_val (v := .pointer (some (wad.add (j * 3)))) (w' := w) ?_ ⟨Below.refl _ _, rfl⟩
              go_simp <;> (first | exact IntWalk.u64_in _ (by omega) | exact IntWalk.u32_in _ (by omega) | exact IntWalk.u16_in _ (by omega) | exact IntWalk.u8_in _ (by omega) | exact IntWalk.i64_in _ (by omega) | skip)
            case r21_1o14 =>
              intro vs w hb hV
              rw [if_pos (by kernel_rfl)]
              generalize hρ : rho _ _ _ vs = ρ
              have d97 : (vs 13) = .pointer (some (wad.add (j * 3))) := hV 13 (by kernel_rfl)
              have e97 : ρ (.tmp 97) = vs 13 := by rw [← hρ]; kernel_rfl
              rw [d97] at e97; clear d97
              clear hρ hV
              refine runs_val (v := .pointer (some ⟨(wad.add (j * 3)).block, (wad.add (j * 3)).off + 1, none⟩)) (w' := w) ?_ ⟨Below.refl _ _, rfl⟩
              go_simp <;> (first | exact IntWalk.u64_in _ (by omega) | exact IntWalk.u32_in _ (by omega) | exact IntWalk.u16_in _ (by omega) | exact IntWalk.u8_in _ (by omega) | exact IntWalk.i64_in _ (by omega) | skip)
            case r21_1o15 =>
              intro vs w hb hV
              rw [if_pos (by kernel_rfl)]
              generalize hρ : rho _ _ _ vs = ρ
              have d98 : (vs 14) = .pointer (some ⟨(wad.add (j * 3)).block, (wad.add (j * 3)).off + 1, none⟩) := hV 14 (by kernel_rfl)
              have e98 : ρ (.tmp 98) = vs 14 := by rw [← hρ]; kernel_rfl
              rw [d98] at e98; clear d98
              clear hρ hV
              have c0 := pw_cell_below hb Y1.out
              refine runs_val (v := .bool lb) (w' := w) ?_ ⟨Below.refl _ _, rfl⟩
              go_simp
            case r21_1o16 =>
              intro vs w hb hV
              rw [if_pos (by kernel_rfl)]
              generalize hρ : rho _ _ _ vs = ρ
              have d94 : (vs 10) = .bool lb := hV 10 (by kernel_rfl)
              have e94 : ρ (.tmp 94) = vs 10 := by rw [← hρ]; kernel_rfl
              rw [d94] at e94; clear d94
              have d99 : (vs 15) = .bool lb := hV 15 (by kernel_rfl)
              have e99 : ρ (.tmp 99) = vs 15 := by rw [← hρ]; kernel_rfl
              rw [d99] at e99; clear d99
              clear hρ hV
              refine runs_val (v := .bool false) (w' := w) ?_ ⟨Below.refl _ _, rfl⟩
              go_simp <;> (first | exact IntWalk.u64_in _ (by omega) | exact IntWalk.u32_in _ (by omega) | exact IntWalk.u16_in _ (by omega) | exact IntWalk.u8_in _ (by omega) | exact IntWalk.i64_in _ (by omega) | skip)
            case r21_1o17 =>
              intro vs w hb hV
              rw [if_pos (by kernel_rfl)]
              generalize hρ : rho _ _ _ vs = ρ
              have d92 : (vs 8) = .bool false := hV 8 (by kernel_rfl)
              have e92 : ρ (.tmp 92) = vs 8 := by rw [← hρ]; kernel_rfl
              rw [d92] at e92; clear d92
              have d100 : (vs 16) = .bool false := hV 16 (by kernel_rfl)
              have e100 : ρ (.tmp 100) = vs 16 := by rw [← hρ]; kernel_rfl
              rw [d100] at e100; clear d100
              have econ : ∀ v : Value, ρ (.const v) = v := fun v => by rw [← hρ]; rfl
              clear hρ hV
              refine runs_val (v := .bool false) (w' := w) ?_ ⟨Below.refl _ _, rfl⟩
              go_simp <;> (first | exact IntWalk.u64_in _ (by omega) | exact IntWalk.u32_in _ (by omega) | exact IntWalk.u16_in _ (by omega) | exact IntWalk.u8_in _ (by omega) | exact IntWalk.i64_in _ (by omega) | skip)
            case r21_1o18 =>
              intro vs w hb hV
              rw [if_pos (by kernel_rfl)]
              generalize hρ : rho _ _ _ vs = ρ
              have d101 : (vs 17) = .bool false := hV 17 (by kernel_rfl)
              have e101 : ρ (.tmp 101) = vs 17 := by rw [← hρ]; kernel_rfl
              clear hρ hV
              refine runs_val (v := vs 17) (w' := w) ?_ ⟨Below.refl _ _, d101⟩
              go_simp
            case r21_1o19 =>
              intro vs w hb hV
              rw [if_pos (by kernel_rfl)]
              generalize hρ : rho _ _ _ vs = ρ
              have e15 : ρ (.tmp 15) = .pointer (some ⟨gx, 0, none⟩) := by rw [← hρ]; kernel_rfl
              clear hρ hV
              refine runs_val (v := .pointer (some ⟨gx, 2, none⟩)) (w' := w) ?_ ⟨Below.refl _ _, rfl⟩
              go_simp <;> (first | exact IntWalk.u64_in _ (by omega) | exact IntWalk.u32_in _ (by omega) | exact IntWalk.u16_in _ (by omega) | exact IntWalk.u8_in _ (by omega) | exact IntWalk.i64_in _ (by omega) | skip)
            case r21_1o20 =>
              intro vs w hb hV
              rw [if_pos (by kernel_rfl)]
              generalize hρ : rho _ _ _ vs = ρ
              have d103 : (vs 19) = .pointer (some ⟨gx, 2, none⟩) := hV 19 (by kernel_rfl)
              have e103 : ρ (.tmp 103) = vs 19 := by rw [← hρ]; kernel_rfl
              rw [d103] at e103; clear d103
              clear hρ hV
              have c0 := pw_cell_below hb (blk_cell G0.out 2)
              refine runs_val (v := .slice B dl c2) (w' := w) ?_ ⟨Below.refl _ _, rfl⟩
              go_simp
            case r21_1o21 =>
              intro vs w hb hV
              rw [if_pos (by kernel_rfl)]
              generalize hρ : rho _ _ _ vs = ρ
              have e10 : ρ (.tmp 10) = .slice (some wad) m wd := by rw [← hρ]; kernel_rfl
              clear hρ hV
              refine runs_val (v := .slice (some wad) m wd) (w' := w) ?_ ⟨Below.refl _ _, rfl⟩
              go_simp <;> (first | exact IntWalk.u64_in _ (by omega) | exact IntWalk.u32_in _ (by omega) | exact IntWalk.u16_in _ (by omega) | exact IntWalk.u8_in _ (by omega) | exact IntWalk.i64_in _ (by omega) | skip)
            case r21_1o22 =>
              intro vs w hb hV
              rw [if_pos (by kernel_rfl)]
              generalize hρ : rho _ _ _ vs = ρ
              have e14 : ρ (.tmp 14) = .int .i64 j := by rw [← hρ]; kernel_rfl
              clear hρ hV
              refine runs_val (v := .int .i64 j) (w' := w) ?_ ⟨Below.refl _ _, rfl⟩
              go_simp <;> (first | exact IntWalk.u64_in _ (by omega) | exact IntWalk.u32_in _ (by omega) | exact IntWalk.u16_in _ (by omega) | exact IntWalk.u8_in _ (by omega) | exact IntWalk.i64_in _ (by omega) | skip)
            case r21_1o23 =>
              intro vs w hb hV
              rw [if_pos (by kernel_rfl)]
              generalize hρ : rho _ _ _ vs = ρ
              have d105 : (vs 21) = .slice (some wad) m wd := hV 21 (by kernel_rfl)
              have e105 : ρ (.tmp 105) = vs 21 := by rw [← hρ]; kernel_rfl
              rw [d105] at e105; clear d105
              have d106 : (vs 22) = .int .i64 j := hV 22 (by kernel_rfl)
              have e106 : ρ (.tmp 106) = vs 22 := by rw [← hρ]; kernel_rfl
              rw [d106] at e106; clear d106
              clear hρ hV
              refine runs_val (v := .pointer (some (wad.add (j * 3)))) (w' := w) ?_ ⟨Below.refl _ _, rfl⟩
              go_simp <;> (first | exact IntWalk.u64_in _ (by omega) | exact IntWalk.u32_in _ (by omega) | exact IntWalk.u16_in _ (by omega) | exact IntWalk.u8_in _ (by omega) | exact IntWalk.i64_in _ (by omega) | skip)
            case r21_1o24 =>
              intro vs w hb hV
              rw [if_pos (by kernel_rfl)]
              generalize hρ : rho _ _ _ vs = ρ
              have d107 : (vs 23) = .pointer (some (wad.add (j * 3))) := hV 23 (by kernel_rfl)
              have e107 : ρ (.tmp 107) = vs 23 := by rw [← hρ]; kernel_rfl
              rw [d107] at e107; clear d107
              clear hρ hV
              refine runs_val (v := .pointer (some ⟨(wad.add (j * 3)).block, (wad.add (j * 3)).off + 2, none⟩)) (w' := w) ?_ ⟨Below.refl _ _, rfl⟩
              go_simp <;> (first | exact IntWalk.u64_in _ (by omega) | exact IntWalk.u32_in _ (by omega) | exact IntWalk.u16_in _ (by omega) | exact IntWalk.u8_in _ (by omega) | exact IntWalk.i64_in _ (by omega) | skip)
            case r21_1o25 =>
              intro vs w hb hV
              rw [if_pos (by kernel_rfl)]
              generalize hρ : rho _ _ _ vs = ρ
              have d108 : (vs 24) = .pointer (some ⟨(wad.add (j * 3)).block, (wad.add (j * 3)).off + 2, none⟩) := hV 24 (by kernel_rfl)
              have e108 : ρ (.tmp 108) = vs 24 := by rw [← hρ]; kernel_rfl
              rw [d108] at e108; clear d108
              clear hρ hV
              have c0 := pw_cell_below hb Y2.out
              refine runs_val (v := .slice B2 dl c3) (w' := w) ?_ ⟨Below.refl _ _, rfl⟩
              go_simp
            case r21_1o26 =>
              intro vs w hb hV
              rw [if_pos (by kernel_rfl)]
              generalize hρ : rho _ _ _ vs = ρ
              have d104 : (vs 20) = .slice B dl c2 := hV 20 (by kernel_rfl)
              have e104 : ρ (.tmp 104) = vs 20 := by rw [← hρ]; kernel_rfl
              rw [d104] at e104; clear d104
              have d109 : (vs 25) = .slice B2 dl c3 := hV 25 (by kernel_rfl)
              have e109 : ρ (.tmp 109) = vs 25 := by rw [← hρ]; kernel_rfl
              rw [d109] at e109; clear d109
              have ef13 : ρ (.func 13) = .func (.func 13) #[] #[] := by rw [← hρ]; rfl
              clear hρ hV
              refine runs_call (f := 13) (args := #[.slice B dl c2, .slice B2 dl c3]) (w' := w) ?_ ?_
              · go_simp
              · refine (same_is true _ _ _ _ _ _ _ _ _ (Kd.C_below HXD.out hb) HXC.out (Kd.C_below HYD.out hb) HYC.out (by simp)).mono ?_
                rintro e w5 ⟨rfl, hd5⟩
                exact ⟨_, rfl, hd5.below, rfl⟩
            case r21_1o27 =>
              intro vs w hb hV
              rw [if_pos (by kernel_rfl)]
              generalize hρ : rho _ _ _ vs = ρ
              have d110 : (vs 26) = .bool true := hV 26 (by kernel_rfl)
              have e110 : ρ (.tmp 110) = vs 26 := by rw [← hρ]; kernel_rfl
              rw [d110] at e110; clear d110
              clear hρ hV
              refine runs_val (v := .bool false) (w' := w) ?_ ⟨Below.refl _ _, rfl⟩
              go_simp <;> (first | exact IntWalk.u64_in _ (by omega) | exact IntWalk.u32_in _ (by omega) | exact IntWalk.u16_in _ (by omega) | exact IntWalk.u8_in _ (by omega) | exact IntWalk.i64_in _ (by omega) | skip)
            case r21_1o28 =>
              intro vs w hb hV
              rw [if_pos (by kernel_rfl)]
              generalize hρ : rho _ _ _ vs = ρ
              have d102 : (vs 18) = .bool false := hV 18 (by kernel_rfl)
              have e102 : ρ (.tmp 102) = vs 18 := by rw [← hρ]; kernel_rfl
              rw [d102] at e102; clear d102
              have d111 : (vs 27) = .bool false := hV 27 (by kernel_rfl)
              have e111 : ρ (.tmp 111) = vs 27 := by rw [← hρ]; kernel_rfl
              rw [d111] at e111; clear d111
              have econ : ∀ v : Value, ρ (.const v) = v := fun v => by rw [← hρ]; rfl
              clear hρ hV
              refine runs_val (v := .bool false) (w' := w) ?_ ⟨Below.refl _ _, rfl⟩
              go_simp <;> (first | exact IntWalk.u64_in _ (by omega) | exact IntWalk.u32_in _ (by omega) | exact IntWalk.u16_in _ (by omega) | exact IntWalk.u8_in _ (by omega) | exact IntWalk.i64_in _ (by omega) | skip)
            case r21_1e =>
              intro vs V2 hb2 hV
              have d84 : (vs 0) = .pointer (some ⟨gx, 0, none⟩) := hV 0 (Nat.le_of_ble_eq_true rfl)
              have d85 : (vs 1) = .bool fb := hV 1 (Nat.le_of_ble_eq_true rfl)
              have d86 : (vs 2) = .slice (some wad) m wd := hV 2 (Nat.le_of_ble_eq_true rfl)
              have d87 : (vs 3) = .int .i64 j := hV 3 (Nat.le_of_ble_eq_true rfl)
              have d88 : (vs 4) = .pointer (some (wad.add (j * 3))) := hV 4 (Nat.le_of_ble_eq_true rfl)
              have d89 : (vs 5) = .pointer (some (wad.add (j * 3))) := hV 5 (Nat.le_of_ble_eq_true rfl)
              have d90 : (vs 6) = .bool fb := hV 6 (Nat.le_of_ble_eq_true rfl)
              have d91 : (vs 7) = .bool false := hV 7 (Nat.le_of_ble_eq_true rfl)
              have d92 : (vs 8) = .bool false := hV 8 (Nat.le_of_ble_eq_true rfl)
              have d93 : (vs 9) = .pointer (some ⟨gx, 1, none⟩) := hV 9 (Nat.le_of_ble_eq_true rfl)
              have d94 : (vs 10) = .bool lb := hV 10 (Nat.le_of_ble_eq_true rfl)
              have d95 : (vs 11) = .slice (some wad) m wd := hV 11 (Nat.le_of_ble_eq_true rfl)
              have d96 : (vs 12) = .int .i64 j := hV 12 (Nat.le_of_ble_eq_true rfl)
              have d97 : (vs 13) = .pointer (some (wad.add (j * 3))) := hV 13 (Nat.le_of_ble_eq_true rfl)
              have d98 : (vs 14) = .pointer (some ⟨(wad.add (j * 3)).block, (wad.add (j * 3)).off + 1, none⟩) := hV 14 (Nat.le_of_ble_eq_true rfl)
              have d99 : (vs 15) = .bool lb := hV 15 (Nat.le_of_ble_eq_true rfl)
              have d100 : (vs 16) = .bool false := hV 16 (Nat.le_of_ble_eq_true rfl)
              have d101 : (vs 17) = .bool false := hV 17 (Nat.le_of_ble_eq_true rfl)
              have d102 : (vs 18) = .bool false := hV 18 (Nat.le_of_ble_eq_true rfl)
              have d103 : (vs 19) = .pointer (some ⟨gx, 2, none⟩) := hV 19 (Nat.le_of_ble_eq_true rfl)
              have d104 : (vs 20) = .slice B dl c2 := hV 20 (Nat.le_of_ble_eq_true rfl)
              have d105 : (vs 21) = .slice (some wad) m wd := hV 21 (Nat.le_of_ble_eq_true rfl)
              have d106 : (vs 22) = .int .i64 j := hV 22 (Nat.le_of_ble_eq_true rfl)
              have d107 : (vs 23) = .pointer (some (wad.add (j * 3))) := hV 23 (Nat.le_of_ble_eq_true rfl)
              have d108 : (vs 24) = .pointer (some ⟨(wad.add (j * 3)).block, (wad.add (j * 3)).off + 2, none⟩) := hV 24 (Nat.le_of_ble_eq_true rfl)
              have d109 : (vs 25) = .slice B2 dl c3 := hV 25 (Nat.le_of_ble_eq_true rfl)
              have d110 : (vs 26) = .bool true := hV 26 (Nat.le_of_ble_eq_true rfl)
              have d111 : (vs 27) = .bool false := hV 27 (Nat.le_of_ble_eq_true rfl)
              have d112 : (vs 28) = .bool false := hV 28 (Nat.le_of_ble_eq_true rfl)
              clear hV
              simp only [putAll]
              rw [d84, d85, d86, d87, d88, d89, d90, d91, d92, d93, d94, d95, d96, d97, d98, d99, d100, d101, d102, d103, d104, d105, d106, d107, d108, d109, d110, d111, d112]
              clear d84 d85 d86 d87 d88 d89 d90 d91 d92 d93 d94 d95 d96 d97 d98 d99 d100 d101 d102 d103 d104 d105 d106 d107 d108 d109 d110 d111 d112
              clear vs
              simp only [Act.put, List.setIfInBounds_toArray, List.set_cons_zero, List.set_cons_succ]
              have JB := Aside0.mk (JA.out.trans (put_below JA.out.1 (Nat.le_refl _) hb2))
              have key := put_any w5.heap.size w5.heap.size (rowK p m j) v2 ⟨fb, lb, q⟩ B c2 V2 JB.out.1 (Nat.le_refl _) (rowK_len (by rw [HPL.out]; exact hk')) (by show (Kd.int .u8).C V2 B q.length q; rw [HDL.out]; exact Kd.C_below HXD.out hb2) (by show q.length ≤ c2; rw [HDL.out]; exact HXC.out)
              rw [HPUT.out] at key
              simp only [HDL.out] at key
              have KEY := Aside0.mk key
              have z0 := pw_cell_below hb2 (blk_cell G0.out 0)
              have z1 := pw_cell_below hb2 (blk_cell G0.out 1)
              have z2 := pw_cell_below hb2 (blk_cell G0.out 2)
              have hj1 := HJ1.out
              have E3' := E3.out
              clear hb2 key JA HXD HYD P7 Y0 Y1 Y2 G0 HJ1 E3 HB HBg J x0 x1 x2
              rcases hj1 with ⟨hj1, rfl⟩ | ⟨hj1, rfl⟩
              · rw [if_pos hj1, decide_eq_true hj1] at KEY
                go_wp2_with fail
                refine KEY.out.mono ?_
                rintro e w7 ⟨vo, v3, rfl, hv, hp⟩
                obtain ⟨Qo, do_, rfl⟩ := Kd.R_slice hv
                obtain ⟨s1, s2, s3⟩ := R_C hv
                have J7 := Aside0.mk (JB.out.trans hp)
                have P8 := Aside0.mk (Kd.C_below P5.out (HT.out.trans J7.out.2.2.2))
                rw [HPL.out] at s2 s3 ⊢
                have S3 := Aside0.mk s3
                clear hv hp s1 s3 KEY JB z0 z1 z2
                go_wp2_with fail
                refine (same_is true _ _ _ _ _ _ _ _ _ S3.out s2 P8.out (Nat.le_refl _) (by simp)).mono ?_
                rintro e w8 ⟨rfl, nd, rfl⟩
                have J8 := Aside0.mk (J7.out.drewN nd (Nat.le_refl _))
                clear J7 P8 S3
                go_wp2_with fail
                refine (open_any _ _ _ _ _ J8.out.1).mono ?_
                rintro e w9 ⟨rfl, hb9⟩
                rw [HOP.out]
                have J9 := Aside0.mk (J8.out.trans (put_below J8.out.1 (Nat.le_refl _) hb9))
                clear J8 hb9
                go_wp2_with fail
                go_roundw
                case rel => exact ⟨j + 1, v3, by omega, by go_num, J9⟩
                case measure => simp [intOf]; omega
              · rw [if_neg hj1, decide_eq_false hj1] at KEY
                go_wp2_with fail
                refine KEY.out.mono ?_
                rintro e w7 ⟨vo, v3, rfl, hv, hp⟩
                obtain ⟨Qo, do_, rfl⟩ := Kd.R_slice hv
                have J7 := Aside0.mk (JB.out.trans hp)
                clear hv hp KEY JB z0 z1 z2
                go_wp2_with fail
                refine (open_any _ _ _ _ _ J7.out.1).mono ?_
                rintro e w9 ⟨rfl, hb9⟩
                rw [HOP.out]
                have J9 := Aside0.mk (J7.out.trans (put_below J7.out.1 (Nat.le_refl _) hb9))
                clear J7 hb9
                go_wp2_with fail
                go_roundw
                case rel => exact ⟨j + 1, v3, by omega, by go_num, J9⟩
                case measure => simp [intOf]; omega
          · have hjm : j = m := by omega
            have K9 : Aside0 (Bk wr w5.heap.size w5.heap.size B0 v2) := ⟨by
              have := J.out.1
              unfold rowK at this
              rw [if_pos (.inr hjm)] at this
              exact this⟩
            have d2 : decide (j < m) = false := decide_eq_false hlt2
            clear hjm J
            go_wp2_with fail
            refine (held_any _ _ _ _ _ K9.out).mono ?_
            rintro e w9 ⟨rfl, hb9⟩
            rw [show B0.p.length = 0 from rfl]
            go_wp2_with fail
            go_ret
            exact ⟨rfl, below_step HB.out hb9⟩
end Go.Proofs.Ytmhninlndjcikaa
