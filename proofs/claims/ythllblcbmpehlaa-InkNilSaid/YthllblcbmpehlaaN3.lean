/- The walk of InkSizes. -/
import Derived.Test.YthllblcbmpehlaaNn
namespace Go.Proofs.Ythllblcbmpehlaa
open Go.RowKit Go.Proofs.YthllblcbmpehlaaW.PrintWords Go.Proofs.YthllblcbmpehlaaW.PrintLast Go.Proofs.YthllblcbmpehlaaW.PrintMore
set_option linter.unusedVariables false
set_option linter.unusedSimpArgs false

/-- What is laid is read again. -/
theorem numR_num (m : Nat) : ∀ (sh acc : Nat) (l' : List Int), m * 2 ^ sh < 18446744073709551616 → (0 < sh → m ≠ 0) → numR sh acc (numN m ++ l') = some (acc + m * 2 ^ sh, l') := by
  induction m using Nat.strongRecOn with
  | _ m ih =>
    intro sh acc l' hm h0
    have hpos : 0 < 2 ^ sh := Nat.two_pow_pos sh
    have h63 : ¬ 63 < sh := fun h => by
      have hm0 := h0 (by omega)
      have h1 : 2 ^ 64 ≤ 2 ^ sh := Nat.pow_le_pow_right (by decide) h
      have h2 : 1 * 2 ^ sh ≤ m * 2 ^ sh := Nat.mul_le_mul_right _ (by omega)
      omega
    have hpart : ∀ k, k ≤ m → ¬ 18446744073709551615 / 2 ^ sh < k := fun k hk h => by
      have h1 := Nat.mul_le_mul_right (2 ^ sh) hk
      have h2 := (Nat.div_lt_iff_lt_mul hpos).1 h
      omega
    by_cases h8 : m < 128
    · rw [numN_lo h8, List.singleton_append]
      simp only [numR, Int.toNat_natCast]
      rw [if_neg, if_pos (by omega), Nat.mod_eq_of_lt h8]
      rintro (⟨a, b⟩ | h | h)
      · exact h0 a (by omega)
      · exact h63 h
      · exact hpart _ (by omega) h
    · rw [numN_hi h8, List.cons_append]
      simp only [numR, Int.toNat_natCast]
      rw [if_neg, if_neg (by omega), show (m % 128 + 128) % 128 = m % 128 by omega, ih (m / 128) (by omega) (sh + 7) _ l' ?_ (fun _ => by omega)]
      · congr 2
        rw [Nat.pow_add, show (2 : Nat) ^ 7 = 128 from rfl]
        have : m / 128 * (2 ^ sh * 128) = (128 * (m / 128)) * 2 ^ sh := by rw [Nat.mul_comm (2 ^ sh) 128, ← Nat.mul_assoc, Nat.mul_comm (m / 128) 128]
        rw [this, Nat.add_assoc, ← Nat.add_mul]
        congr 2
        omega
      · rw [Nat.pow_add, show (2 : Nat) ^ 7 = 128 from rfl]
        have : m / 128 * (2 ^ sh * 128) = (128 * (m / 128)) * 2 ^ sh := by rw [Nat.mul_comm (2 ^ sh) 128, ← Nat.mul_assoc, Nat.mul_comm (m / 128) 128]
        rw [this]
        exact Nat.lt_of_le_of_lt (Nat.mul_le_mul_right _ (by omega)) hm
      · rintro (⟨a, b⟩ | h | h)
        · omega
        · exact h63 h
        · exact hpart _ (by omega) h
theorem eNum_num (n : Nat) (hn : n < 18446744073709551616) (l' : List Int) (most : Nat) : eNum most (numN n ++ l') false = if most < n then (0, [], true) else ((n : Int), l', false) := by
  unfold eNum numB
  rw [if_neg (by decide), numR_num n 0 0 l' (by omega) (fun h => absurd h (by decide))]
  simp [eRes]
def lenZ (x : Nat) : Nat := if x = 0 then 0 else (numN x).length
theorem lenZ_step {x : Nat} (h : 0 < x) : lenZ x = 1 + lenZ (x / 128) := by
  unfold lenZ
  rw [if_neg (by omega)]
  by_cases h8 : x < 128
  · rw [numN_lo h8, if_pos (by omega)]; rfl
  · rw [numN_hi h8, if_neg (by omega), List.length_cons, Nat.add_comm]
theorem numN_lenZ (n : Nat) : (numN n).length = 1 + lenZ (n / 128) := by
  by_cases h : n = 0
  · subst h; rw [numN_lo (by decide)]; rfl
  · rw [← lenZ_step (by omega)]; unfold lenZ; rw [if_neg h]
theorem R_put {w w' : World} {base b0 g hi : Nat} {vx : Value} {p' xs : List Int} {v' : Value} (h : (Kd.int .u8).R 5 w base (fun k => hi < k) vx xs) (hp : PPut w w' b0 g (.slice none 0 0) p' v') (hg : g ≤ hi) : (Kd.int .u8).R 5 w' base (fun k => hi < k) vx xs :=
  Kd.R_step h (fun k hk hlt => hp.2.1.2 k hlt (by omega) (by simp [Value.ownBlock]))

set_option maxRecDepth 100000 in
set_option maxHeartbeats 8000000 in
theorem sizes_walk (n0 m0 : Int) (w : World) (hn0 : 0 ≤ n0 ∧ n0 < 18446744073709551616) (hm0 : 0 ≤ m0 ∧ m0 < 18446744073709551616) :
    Calls Try.prog 4 #[.int .u64 n0, .int .u64 m0] w fun e w' => e = .returned (.bool true) ∧ Below w.heap.size w w' := by
  obtain ⟨n, rfl⟩ := Int.eq_ofNat_of_zero_le hn0.1
  obtain ⟨m, rfl⟩ := Int.eq_ofNat_of_zero_le hm0.1
  have HN := Aside0.mk (show n < 18446744073709551616 by omega)
  have E8 : Aside0 ((n : Int) % 256 = ((n % 256 : Nat) : Int)) := ⟨by omega⟩
  have E16 : Aside0 (IntKind.u16.wrap (n : Int) = ((n % 65536 : Nat) : Int)) := ⟨by rw [IntKind.wrap_u16]; omega⟩
  have E32 : Aside0 ((m : Int) % 4294967296 = ((m % 4294967296 : Nat) : Int)) := ⟨by omega⟩
  clear hn0 hm0
  go_enter Try.func4, Try.ntmps4
  go_wp2_with fail
  refine (awake_any _).mono ?_
  rintro e w1 ⟨rfl, hb1⟩
  have HB1 := Aside0.mk hb1
  clear hb1
  obtain ⟨b, hb⟩ : ∃ b, w1.heap.size = b := ⟨_, rfl⟩
  have q1 : ((((w1.alloc (.cells #[.slice none 0 0] 27)).alloc (.cells #[.slice none 0 0] 27)).alloc (.cells #[.slice none 0 0] 27)).alloc (.cells #[.slice none 0 0] 27)).heap[b]? = some (.cells #[.slice none 0 0] 27 (0, 0)) := by rw [← hb]; exact blk_alloc (blk_alloc (blk_alloc (blk_new _ _) _) _) _
  have q2 : ((((w1.alloc (.cells #[.slice none 0 0] 27)).alloc (.cells #[.slice none 0 0] 27)).alloc (.cells #[.slice none 0 0] 27)).alloc (.cells #[.slice none 0 0] 27)).heap[b + 1]? = some (.cells #[.slice none 0 0] 27 (0, 0)) := by rw [← hb]; simpa using blk_alloc (blk_alloc (blk_new (w1.alloc (.cells #[.slice none 0 0] 27)) (.cells #[.slice none 0 0] 27)) (.cells #[.slice none 0 0] 27)) (.cells #[.slice none 0 0] 27)
  have q3 : ((((w1.alloc (.cells #[.slice none 0 0] 27)).alloc (.cells #[.slice none 0 0] 27)).alloc (.cells #[.slice none 0 0] 27)).alloc (.cells #[.slice none 0 0] 27)).heap[b + 1 + 1]? = some (.cells #[.slice none 0 0] 27 (0, 0)) := by rw [← hb]; simpa using blk_alloc (blk_new ((w1.alloc (.cells #[.slice none 0 0] 27)).alloc (.cells #[.slice none 0 0] 27)) (.cells #[.slice none 0 0] 27)) (.cells #[.slice none 0 0] 27)
  have q4 : ((((w1.alloc (.cells #[.slice none 0 0] 27)).alloc (.cells #[.slice none 0 0] 27)).alloc (.cells #[.slice none 0 0] 27)).alloc (.cells #[.slice none 0 0] 27)).heap[b + 1 + 1 + 1]? = some (.cells #[.slice none 0 0] 27 (0, 0)) := by rw [← hb]; simpa using blk_new (((w1.alloc (.cells #[.slice none 0 0] 27)).alloc (.cells #[.slice none 0 0] 27)).alloc (.cells #[.slice none 0 0] 27)) (.cells #[.slice none 0 0] 27)
  have hal : Below b w1 ((((w1.alloc (.cells #[.slice none 0 0] 27)).alloc (.cells #[.slice none 0 0] 27)).alloc (.cells #[.slice none 0 0] 27)).alloc (.cells #[.slice none 0 0] 27)) := by rw [← hb]; exact below_alloc (below_alloc (below_alloc (below_alloc (Below.refl _ _) _) _) _) _
  go_wp2_with fail
  (try rw [hb])
  generalize (((w1.alloc (.cells #[.slice none 0 0] 27)).alloc (.cells #[.slice none 0 0] 27)).alloc (.cells #[.slice none 0 0] 27)).alloc (.cells #[.slice none 0 0] 27) = w2 at *
  have HW := Aside0.mk (show w.heap.size ≤ b by rw [← hb]; exact HB1.out.size)
  have HP1 := Aside0.mk (pen_new (b := b) q1)
  have HP2 := Aside0.mk (pen_new (b := b) q2)
  have HP3 := Aside0.mk (pen_new (b := b) q3)
  have HP4 := Aside0.mk (pen_new (b := b) q4)
  have HB2 := Aside0.mk (HB1.out.trans (hal.mono HW.out))
  have HS2 := Aside0.mk (blk_lt q4)
  clear q1 q2 q3 q4 hal hb HB1
  have H0 : Aside0 (1 + lenZ (n / 128) = (numN n).length ∧ n / 128 < 18446744073709551616) := ⟨⟨(numN_lenZ n).symm, by have := HN.out; omega⟩⟩
  have HTEN := Aside0.mk (numN_ten HN.out)
  obtain ⟨nd, hnd⟩ : ∃ nd, n / 128 = nd := ⟨_, rfl⟩
  have E0 : IntKind.u64.wrap ((n : Int) / 128) = (nd : Int) := by rw [IntKind.wrap_u64]; have := HN.out; omega
  rw [hnd] at H0
  clear hnd
  go_loopw [9, 10] (fun v9 v10 wr => ∃ (s x : Nat), v9 = .int .i64 s ∧ v10 = .int .u64 x ∧ Aside0 (s + lenZ x = (numN n).length ∧ x < 18446744073709551616) ∧ wr = w2) (fun _ v10 _ => (intOf v10).toNat)
  case atStart => exact ⟨1, nd, rfl, by rw [← E0], H0, rfl⟩
  case round =>
    clear H0 E0
    obtain ⟨s, x, rfl, rfl, H, rfl⟩ := hrel
    by_cases hx : 0 < x
    · have d1 : decide ((0 : Int) < (x : Int)) = true := decide_eq_true (by omega)
      have d1' : decide (0 < x) = true := decide_eq_true hx
      have hs : s ≤ 10 := by have := H.out.1; have := HTEN.out; omega
      have hx64 := H.out.2
      obtain ⟨xd, hxd⟩ : ∃ xd, x / 128 = xd := ⟨_, rfl⟩
      have E1 : IntKind.u64.wrap ((x : Int) / 128) = (xd : Int) := by rw [IntKind.wrap_u64]; omega
      have H2 : Aside0 (s + 1 + lenZ (x / 128) = (numN n).length ∧ x / 128 < 18446744073709551616) := ⟨⟨by have := lenZ_step hx; have := H.out.1; omega, by have := H.out.2; omega⟩⟩
      rw [hxd] at H2
      have HX := Aside0.mk (show xd < x by omega)
      clear H hx hxd hx64
      go_wp2_with fail
      go_roundw
      case rel => exact ⟨s + 1, xd, by go_num, by first | rfl | rw [← E1] | rw [E1], H2, by first | rfl | trivial⟩
      case measure => have := HX.out; (try rw [E1]); simp [intOf]; omega
    · obtain rfl : x = 0 := by omega
      have hsl : s = (numN n).length := by have := H.out.1; simpa [lenZ] using this
      have HSL := Aside0.mk hsl
      clear hsl
      have d1 : decide ((0 : Int) < ((0 : Nat) : Int)) = false := by decide
      have K1 := Aside0.mk (pnum_any b (b + 1 + 1 + 1) [] (.slice none 0 0) n HN.out wr HP4.out (by omega) (by simp))
      clear H hx
      go_wp2_with fail
      refine K1.out.mono ?_
      rintro e u1 ⟨v4, rfl, h⟩
      rw [List.nil_append] at h
      have P1 := Aside0.mk (h.pair HP4.out HP1.out (by omega) (Ap.nil _)).1
      have P2 := Aside0.mk (h.pair HP4.out HP2.out (by omega) (Ap.nil _)).1
      have P3 := Aside0.mk (h.pair HP4.out HP3.out (by omega) (Ap.nil _)).1
      have K2 := Aside0.mk (pbytes_any b (b + 1 + 1 + 1) (numN n) v4 u1 h.1 (by have := HTEN.out; omega))
      have B1 := Aside0.mk (HB2.out.trans (h.2.2.2.mono HW.out))
      have S1 := Aside0.mk (h.1.lt)
      clear h K1 HP1 HP2 HP3 HP4 HB2 HS2
      go_wp2_with fail
      refine K2.out.mono ?_
      rintro e u2 ⟨vx, rfl, ho, hb2⟩
      obtain ⟨X, dx, hv⟩ := Kd.R_slice ho
      rw [← HSL.out] at hv
      subst hv
      have HX := Aside0.mk (Kd.R_mono (Kd.R_bound ho) (ok' := fun k => b + 3 < k) (fun k hk => by have := S1.out; omega))
      have Q1 := Aside0.mk (P1.out.below hb2)
      have Q2 := Aside0.mk (P2.out.below hb2)
      have Q3 := Aside0.mk (P3.out.below hb2)
      have B2 := Aside0.mk (below_step B1.out hb2)
      generalize u1.heap.size = bx at *
      clear ho hb2 K2 P1 P2 P3 B1 S1
      go_wp2_with fail
      rw [E8.out]
      refine (pbyte_any b b [] _ ((n % 256 : Nat) : Int) u2 Q1.out (Nat.le_refl _) (by simp)).mono ?_
      rintro e u3 ⟨v1, rfl, h⟩
      have P2 := Aside0.mk (h.pair Q1.out Q2.out (by omega) (Ap.nil _)).1
      have P3 := Aside0.mk (h.pair Q1.out Q3.out (by omega) (Ap.nil _)).1
      have HX3 := Aside0.mk (R_put HX.out h (by omega))
      have K3 := Aside0.mk (pbytes_any b b _ v1 u3 h.1 (by simp))
      have B3 := Aside0.mk (B2.out.trans (h.2.2.2.mono HW.out))
      clear h Q1 Q2 Q3 B2 HX
      go_wp2_with fail
      refine K3.out.mono ?_
      rintro e u4 ⟨vo, rfl, ho, hb4⟩
      obtain ⟨X1, dx1, hv⟩ := Kd.R_slice ho
      obtain rfl : vo = .slice X1 1 dx1 := hv
      have Q2 := Aside0.mk (P2.out.below hb4)
      have Q3 := Aside0.mk (P3.out.below hb4)
      have HX4 := Aside0.mk (Kd.R_below HX3.out hb4)
      have B4 := Aside0.mk (below_step B3.out hb4)
      clear ho hb4 K3 P2 P3 B3 HX3
      go_wp2_with fail
      rw [E16.out]
      refine (phalf_any b (b + 1) [] _ (n % 65536) (by omega) u4 Q2.out (by omega) (by simp)).mono ?_
      rintro e u5 ⟨v2, rfl, h⟩
      have P3 := Aside0.mk (h.pair Q2.out Q3.out (by omega) (Ap.nil _)).1
      have HX5 := Aside0.mk (R_put HX4.out h (by omega))
      have K5 := Aside0.mk (pbytes_any b (b + 1) _ v2 u5 h.1 (by simp [lowN_length]))
      have B5 := Aside0.mk (B4.out.trans (h.2.2.2.mono HW.out))
      clear h Q2 Q3 B4 HX4
      go_wp2_with fail
      refine K5.out.mono ?_
      rintro e u6 ⟨vo, rfl, ho, hb6⟩
      obtain ⟨X2, dx2, hv⟩ := Kd.R_slice ho
      obtain rfl : vo = .slice X2 2 dx2 := hv
      have Q3 := Aside0.mk (P3.out.below hb6)
      have HX6 := Aside0.mk (Kd.R_below HX5.out hb6)
      have B6 := Aside0.mk (below_step B5.out hb6)
      clear ho hb6 K5 P3 B5 HX5
      go_wp2_with fail
      rw [E32.out]
      refine (pword_any b (b + 1 + 1) [] _ (m % 4294967296) (by omega) u6 Q3.out (by omega) (by simp)).mono ?_
      rintro e u7 ⟨v3, rfl, h⟩
      have HX7 := Aside0.mk (R_put HX6.out h (by omega))
      have K7 := Aside0.mk (pbytes_any b (b + 1 + 1) _ v3 u7 h.1 (by simp [lowN_length]))
      have B7 := Aside0.mk (B6.out.trans (h.2.2.2.mono HW.out))
      clear h Q3 B6 HX6
      go_wp2_with fail
      refine K7.out.mono ?_
      rintro e u8 ⟨vo, rfl, ho, hb8⟩
      obtain ⟨X3, dx3, hv⟩ := Kd.R_slice ho
      obtain rfl : vo = .slice X3 4 dx3 := hv
      have HX8 := Aside0.mk (Kd.R_below HX7.out hb8)
      have B8 := Aside0.mk (below_step B7.out hb8)
      clear ho hb8 K7 B7 HX7
      obtain ⟨r1, r2, r3⟩ := Rn_C HX8.out
      have C8 := Aside0.mk r3
      clear r1 r2 r3
      go_wp2_with fail
      refine (read_any _ _ _ (numN n) _ C8.out (by have := HTEN.out; have := HSL.out; omega)).mono ?_
      rintro e u9 ⟨g9, rfl, hg, hE, hb9⟩
      have K9 := Aside0.mk (enum_any g9 _ _ _ n u9 hE (numN_bytes n) HN.out)
      have HV : eNum n (numN n) false = ((n : Int), [], false) := by have := eNum_num n HN.out [] n; rw [List.append_nil, if_neg (by omega)] at this; exact this
      rw [HV] at K9
      simp only at K9
      have HX9 := Aside0.mk (Kd.R_below (Kd.R_mono (Kd.R_bound HX8.out) (ok' := fun k => k < g9) (fun k hk => Nat.lt_of_lt_of_le hk.2.2.1 hg)) hb9)
      have HG9 := Aside0.mk hg
      have B9 := Aside0.mk (below_step B8.out hb9)
      have S8 := Aside0.mk (B8.out.size)
      clear hE hb9 HV hg B8 C8
      go_wp2_with fail
      refine K9.out.mono ?_
      rintro e u10 ⟨rfl, h⟩
      have B10 := Aside0.mk (B9.out.trans (h.2.2.mono (Nat.le_trans S8.out HG9.out)))
      have HX10 := Aside0.mk (Kd.R_step (w1 := u10) (Kd.R_mono (Kd.R_bound HX9.out) (ok' := fun k => k < g9) (fun k hk => hk.1)) (fun k hk _ => h.2.2.block k hk))
      clear h K9 B9 HX8 HX9
      obtain ⟨r1, r2, r3⟩ := Rn_C HX10.out
      have C10 := Aside0.mk r3
      clear r1 r2 r3 HX10
      by_cases hz : n = 0
      · have d9 : ((n : Int) == 0) = true := by simp [hz]
        have d9' : (n == 0) = true := by simp [hz]
        clear hz
        go_wp2_with fail
        go_ret
        exact ⟨rfl, B10.out⟩
      · have d9 : ((n : Int) == 0) = false := by simp [hz]
        have d9' : (n == 0) = false := by simp [hz]
        have E9 : IntKind.u64.wrap ((n : Int) - 1) = ((n - 1 : Nat) : Int) := by rw [IntKind.wrap_u64]; have := HN.out; omega
        obtain ⟨n1, hn1⟩ : ∃ n1, n - 1 = n1 := ⟨_, rfl⟩
        have HN1 := Aside0.mk (show n1 < n by omega)
        rw [hn1] at E9
        clear hz hn1
        go_wp2_with fail
        refine (read_any _ _ _ (numN n) _ C10.out (by have := HTEN.out; have := HSL.out; omega)).mono ?_
        rintro e u11 ⟨g11, rfl, hg, hE, hb11⟩
        have K11 := Aside0.mk (enum_any g11 _ _ _ n1 u11 hE (numN_bytes n) (by have := HN.out; have := HN1.out; omega))
        have HV : eNum n1 (numN n) false = (0, [], true) := by have := eNum_num n HN.out [] n1; rw [List.append_nil, if_pos HN1.out] at this; exact this
        rw [HV] at K11
        simp only at K11
        have B11 := Aside0.mk (below_step B10.out hb11)
        have HG11 := Aside0.mk (Nat.le_trans B10.out.size hg)
        clear hE hb11 HV hg B10 C10
        go_wp2_with fail
        refine K11.out.mono ?_
        rintro e u12 ⟨rfl, h⟩
        have B12 := Aside0.mk (B11.out.trans (h.2.2.mono HG11.out))
        clear h K11 B11
        go_wp2_with fail
        go_ret
        exact ⟨rfl, B12.out⟩
end Go.Proofs.Ythllblcbmpehlaa
