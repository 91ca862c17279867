/- The walk of ClipRows. -/
import Derived.Test.YtmhninlndjcikaaK3
namespace Go.Proofs.Ytmhninlndjcikaa
open Go.RowKit Go.Proofs.YtmhninlndjcikaaW.PrintWords Go.Proofs.YtmhninlndjcikaaW.PrintLast Go.Proofs.YtmhninlndjcikaaW.PrintMore
set_option linter.unusedVariables false
set_option linter.unusedSimpArgs false

theorem R_C {α : Type} {d : Kd α} {e base n c : Nat} {w : World} {ok : Nat → Prop} {Q : Option Addr} {xs : List α} (h : d.R e w base ok (.slice Q n c) xs) : xs.length = n ∧ n ≤ c ∧ d.C w Q n xs := by
  obtain ⟨A, c', he, hl, hC⟩ := Kd.R_reads h
  injection he with h1 h2 h3
  subst h1 h2 h3
  exact ⟨rfl, hl, hC⟩
theorem Put'.drewN {w w' : World} {base g : Nat} {k : Bs} {v v' : Value} (h : Put' w w' base g v k v') (nd : Nat) (hbg : base ≤ g) : Put' w (w'.drewN nd) base g v k v' := h.trans (put_below h.1 hbg (pw_below_drewN (Below.refl _ _) nd))

set_option maxRecDepth 100000 in
set_option maxHeartbeats 4000000 in
theorem rows_walk (A : Option Addr) (len c : Nat) (l : List Int) (b : Int) (w : World) (hr : (Kd.int .u16).C w A len l) (hc : len ≤ c) (hl : ∀ x ∈ l, 0 ≤ x ∧ x < 65536) (hb : 0 ≤ b ∧ b < 256) :
    Calls Try.prog 6 #[.slice A len c, .int .u8 b] w fun e w' => e = .returned (.bool true) ∧ Below w.heap.size w w' := by
  have HR := Aside0.mk hr
  have HL := Aside0.mk hl
  clear hr hl hb
  go_enter Try.func6, Try.ntmps6
  go_wp2_with fail
  refine (awake_any _).mono ?_
  rintro e w1 ⟨rfl, hb1⟩
  have B4 := Aside0.mk (below_alloc hb1 (.cells #[.slice none 0 0, .bool false, .bool false] 37))
  have K4 : Aside0 (Bk (w1.alloc (.cells #[.slice none 0 0, .bool false, .bool false] 37)) w1.heap.size w1.heap.size B0 (.slice none 0 0)) := ⟨⟨blk_new _ _, Kd.R_nil _ _ _ _ _⟩⟩
  have hgw : w.heap.size ≤ w1.heap.size := hb1.size
  clear hb1
  go_wp2_with fail
  generalize w1.alloc (.cells #[.slice none 0 0, .bool false, .bool false] 37) = W at *
  generalize w1.heap.size = g at *
  have HGW := Aside0.mk hgw
  clear hgw
  go_loopw [20] (fun v20 wr => ∃ (i : Nat) (v : Value), i ≤ l.length ∧ v20 = .int .i64 i ∧ Aside0 (Put' W wr g g (.slice none 0 0) B0 v)) (fun v20 _ => l.length - (intOf v20).toNat)
  case atStart => exact ⟨0, _, by omega, rfl, ⟨K4.out, KeepBut.refl _ _ _, .inr (.inl rfl), Below.refl _ _⟩⟩
  case round =>
    clear K4
    obtain ⟨i, v, hi, rfl, H⟩ := hrel
    have hn : l.length = len := HR.out.1
    have HB := Aside0.mk (B4.out.trans (H.out.2.2.2.mono HGW.out))
    by_cases hlt : i < l.length
    · obtain ⟨ad, hA, hcell⟩ := int_at (Kd.C_below HR.out HB.out) i hlt
      subst hA
      have d1 : decide (i < len) = true := decide_eq_true (by omega)
      by_cases h6 : 6 ≤ i
      · have h6' : (6 : Int) ≤ i := by omega
        go_wp2_with fail
        refine (open_any g g B0 v wr H.out.1).mono ?_
        rintro e w8 ⟨rfl, hb8⟩
        rw [show B0.op = false from rfl]
        go_wp2_with fail
        refine (held_any g g B0 v w8 (H.out.1.below hb8)).mono ?_
        rintro e w9 ⟨rfl, hb9⟩
        rw [show B0.p.length = 0 from rfl]
        go_wp2_with fail
        go_ret
        exact ⟨rfl, below_step (below_step HB.out hb8) hb9⟩
      · have h6' : ¬ (6 : Int) ≤ i := by omega
        have hs := HL.out _ (List.getElem_mem hlt)
        generalize l[i] = n0 at *
        have e1 : n0.tmod 1025 = n0 % 1025 := Int.tmod_eq_emod_of_nonneg hs.1
        have e2 : ((n0 % 1025) % 1100).toNat = (n0 % 1025).toNat := by omega
        have hk : (n0 % 1025).toNat ≤ 1024 := by omega
        have hn1 : 0 ≤ n0 % 1025 ∧ n0 % 1025 < 65536 := by omega
        generalize n0 % 1025 = n1 at *
        have HE2 := Aside0.mk e2
        have HN1 := Aside0.mk hn1
        clear e2 hn1
        go_wp2_with fail
        refine (bytes_row n1 _ HN1.out _).mono ?_
        rintro e w5 ⟨rfl, h8, hb5⟩
        rw [HE2.out] at h8 ⊢
        clear HE2
        generalize n1.toNat = k at *
        obtain ⟨p, hp, hpl⟩ : ∃ p, Row8 w5 wr.heap.size p ∧ p.length = k := ⟨_, h8, runB_length _ _⟩
        have H5 := Aside0.mk (H.out.trans (put_below H.out.1 (Nat.le_refl _) hb5))
        have P5 := Aside0.mk hp
        have hlo : wr.heap.size < w5.heap.size := blk_lt hp
        have hgl : g < wr.heap.size := blk_lt H.out.1.1
        have HOWN := Aside0.mk H.out.1.own
        clear hp hb5 h8
        go_wp2_with fail
        refine (split_any _ k k p _ (Row8.reads P5.out hpl (by omega)) (Nat.le_refl _) hk).mono ?_
        rintro e w6 ⟨vL, rfl, ho, hb6⟩
        have H6 := Aside0.mk (H5.out.trans (put_below H5.out.1 (Nat.le_refl _) hb6))
        have P6 : Aside0 (Row8 w6 wr.heap.size p) := ⟨blk_below P5.out hb6⟩
        obtain ⟨Q, d, hvL⟩ := Kd.R_slice ho
        subst hvL
        obtain ⟨L, hL⟩ : ∃ L, pieces p = L := ⟨_, rfl⟩
        have hLm : L.length = countN k := by rw [← hL, pieces_length, hpl]
        obtain ⟨m, hm⟩ : ∃ m, countN k = m := ⟨_, rfl⟩
        have hm1 : m ≤ 16 := by rw [← hm]; exact countN_le hk
        rw [hL] at ho ⊢
        rw [hm] at hLm
        rw [hLm] at ho ⊢
        have HO : Aside0 (kP.R 31 w6 w5.heap.size (fun b => w5.heap.size ≤ b) (.slice Q m d) L) := ⟨Kd.R_mono (Kd.R_bound ho) (fun b hb => hb.2.1)⟩
        have HL2 := Aside0.mk hL
        have HM := Aside0.mk hm
        have HPL := Aside0.mk hpl
        have HLO := Aside0.mk (And.intro hlo hgl)
        have HSEP : Aside0 (∀ b, wr.heap.size ≤ b → b ≠ g ∧ v.ownBlock ≠ some b) := ⟨fun b hb => ⟨by omega, fun e => by have := HOWN.out b e; omega⟩⟩
        clear ho hb6 H5 P5 hL hm hpl hlo hgl HOWN
        go_wp2_with fail
        generalize wr.heap.size = lo at *
        go_loopw [43] (fun v43 wr => ∃ (j : Nat) (v2 : Value), j ≤ m ∧ v43 = .int .i64 j ∧ Aside0 (Put' w6 wr g g v (rowK p m j) v2)) (fun v43 _ => m - (intOf v43).toNat)
        case atStart => exact ⟨0, v, by omega, rfl, ⟨by unfold rowK; rw [if_pos (.inl rfl)]; exact H6.out.1, KeepBut.refl _ _ _, .inr (.inl rfl), Below.refl _ _⟩⟩
        case round =>
          obtain ⟨j, v2, hj, rfl, J⟩ := hrel
          by_cases hlt2 : j < m
          · have hRL := J.out.keepR HO.out (fun b hb => HSEP.out b (by have := HLO.out; omega))
            obtain ⟨r1, r2, r3⟩ := R_C hRL
            obtain ⟨x, hx, f1, f2, f3, f3b, f4, f5, f6, f7⟩ := piece_facts (p := p) (by rw [HPL.out]; exact HM.out) (by rw [HPL.out]; exact hk) hlt2
            have hput := rowK_put (p := p) (by rw [HPL.out]; exact HM.out) (by rw [HPL.out]; exact hk) hlt2
            rw [hx] at hput
            obtain ⟨ad2, B, c2, hQ, x0, x1, x2, hxc, hxd⟩ := piece_at r3 j (by omega)
            have hxx : L[j]'(by omega) = x := by
              have : ∀ (h : j < L.length), L[j] = x := by
                rw [← HL2.out]; intro h
                rw [pieces_get, HPL.out, HM.out, hx]
              exact this _
            rw [hxx] at x0 x1 x2 hxc hxd
            have key := put_any g g (rowK p m j) v2 x B c2 (wr.alloc (.cells #[.bool x.f, .bool x.l, .slice B x.d.length c2] 31)) (J.out.1.alloc _) (Nat.le_refl _) (rowK_len (by rw [HPL.out]; exact hk)) (Kd.C_alloc hxd _) hxc
            rw [hput] at key
            have JA := Aside0.mk (J.out.trans (put_below J.out.1 (Nat.le_refl _) (below_alloc (Below.refl _ _) (.cells #[.bool x.f, .bool x.l, .slice B x.d.length c2] 31))))
            obtain ⟨fb, lb, q⟩ := x
            simp only at x0 x1 x2 hxc hxd f3 f3b key JA
            generalize q.length = dl at *
            have hj1 : (j + 1 = m ∧ lb = true) ∨ (¬ j + 1 = m ∧ lb = false) := by
              by_cases h : j + 1 = m
              · exact .inl ⟨h, by rw [f3b]; exact decide_eq_true h⟩
              · exact .inr ⟨h, by rw [f3b]; exact decide_eq_false h⟩
            have HRL := Aside0.mk hRL
            have HKEY := Aside0.mk key
            have d2 : decide (j < m) = true := decide_eq_true hlt2
            subst hQ
            clear hRL r1 r2 r3 hx f1 f2 f3b f4 f5 f6 f7 hput hxd hxx key
            rcases hj1 with ⟨hj1, rfl⟩ | ⟨hj1, rfl⟩
            · rw [if_pos hj1, decide_eq_true hj1] at HKEY
              go_wp2_with fail
              refine HKEY.out.mono ?_
              rintro e w7 ⟨vo, v3, rfl, hv, hp⟩
              obtain ⟨Qo, do_, rfl⟩ := Kd.R_slice hv
              obtain ⟨s1, s2, s3⟩ := R_C hv
              have J7 := Aside0.mk (JA.out.trans hp)
              have P7 := Aside0.mk (J7.out.keep8 P6.out (HSEP.out _ (Nat.le_refl _)).1 (HSEP.out _ (Nat.le_refl _)).2)
              rw [HPL.out] at s2 s3 ⊢
              have S3 := Aside0.mk s3
              clear hv hp s1 s3 HKEY JA
              go_wp2_with fail
              refine (same_is true _ _ _ _ _ _ _ _ _ S3.out s2 (Row8.reads P7.out HPL.out (by omega)) (Nat.le_refl _) (by simp)).mono ?_
              rintro e w8 ⟨rfl, nd, rfl⟩
              go_wp2_with fail
              go_roundw
              case rel => exact ⟨j + 1, v3, by omega, by go_num, ⟨J7.out.drewN nd (Nat.le_refl _)⟩⟩
              case measure => simp [intOf]; omega
            · rw [if_neg hj1, decide_eq_false hj1] at HKEY
              go_wp2_with fail
              refine HKEY.out.mono ?_
              rintro e w7 ⟨vo, v3, rfl, hv, hp⟩
              obtain ⟨Qo, do_, rfl⟩ := Kd.R_slice hv
              have J7 := Aside0.mk (JA.out.trans hp)
              clear hv hp HKEY JA
              go_wp2_with fail
              go_roundw
              case rel => exact ⟨j + 1, v3, by omega, by go_num, J7⟩
              case measure => simp [intOf]; omega
          · have hjm : j = m := by omega
            have J2 : Aside0 (Put' w6 wr g g v B0 v2) := ⟨by
              have := J.out
              unfold rowK at this
              rw [if_pos (.inr hjm)] at this
              exact this⟩
            have d2 : decide (j < m) = false := decide_eq_false hlt2
            have J3 := Aside0.mk (H6.out.trans J2.out)
            clear J J2 hjm
            go_wp2_with fail
            go_roundw
            case rel => exact ⟨i + 1, v2, by omega, by go_num, J3⟩
            case measure => simp [intOf]; omega
    · have d1 : decide (i < len) = false := decide_eq_false (by omega)
      go_wp2_with fail
      refine (open_any g g B0 v wr H.out.1).mono ?_
      rintro e w8 ⟨rfl, hb8⟩
      rw [show B0.op = false from rfl]
      go_wp2_with fail
      refine (held_any g g B0 v w8 (H.out.1.below hb8)).mono ?_
      rintro e w9 ⟨rfl, hb9⟩
      rw [show B0.p.length = 0 from rfl]
      go_wp2_with fail
      go_ret
      exact ⟨rfl, below_step (below_step HB.out hb8) hb9⟩
end Go.Proofs.Ytmhninlndjcikaa
