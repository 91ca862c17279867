/- ink.Eye.Num. -/
import Derived.Test.YthllblcbmpehlaaNh
namespace Go.Proofs.Ythllblcbmpehlaa
open Go.RowKit Go.Proofs.YthllblcbmpehlaaW.PrintWords Go.Proofs.YthllblcbmpehlaaW.PrintLast Go.Proofs.YthllblcbmpehlaaW.PrintMore
set_option linter.unusedVariables false
set_option linter.unusedSimpArgs false

/-- A number off the front: sh bits have been read, they are acc. -/
def numR (sh acc : Nat) : List Int → Option (Nat × List Int)
  | [] => none
  | b :: l => if (0 < sh ∧ b = 0) ∨ 63 < sh ∨ 18446744073709551615 / 2 ^ sh < b.toNat % 128 then none else if b < 128 then some (acc + b.toNat % 128 * 2 ^ sh, l) else numR (sh + 7) (acc + b.toNat % 128 * 2 ^ sh) l
def numB (bad : Bool) (sh acc : Nat) (l : List Int) : Option (Nat × List Int) := if bad = true then none else numR sh acc l
def eRes (most : Nat) : Option (Nat × List Int) → Int × List Int × Bool
  | none => (0, [], true)
  | some (n, l') => if most < n then (0, [], true) else ((n : Int), l', false)
/-- What Num tells. -/
def eNum (most : Nat) (l : List Int) (bad : Bool) : Int × List Int × Bool := eRes most (numB bad 0 0 l)
theorem or_u64 (acc m sh : Nat) (ha : acc < 2 ^ sh) (h63 : ¬ 63 < sh) (hv : ¬ 18446744073709551615 / 2 ^ sh < m % 128) (ha2 : acc < 18446744073709551616) :
    bits .or .u64 (acc : Int) (IntKind.u64.wrap ((m : Int) % 128 * 2 ^ sh)) = ((acc + m % 128 * 2 ^ sh : Nat) : Int) ∧ acc + m % 128 * 2 ^ sh < 18446744073709551616 ∧ acc + m % 128 * 2 ^ sh < 2 ^ (sh + 7) := by
  have hpos : 0 < 2 ^ sh := Nat.two_pow_pos sh
  have h1 : m % 128 * 2 ^ sh ≤ 18446744073709551615 := (Nat.le_div_iff_mul_le hpos).1 (by omega)
  have h2 : IntKind.u64.wrap ((m : Int) % 128 * 2 ^ sh) = ((m % 128 * 2 ^ sh : Nat) : Int) := by
    rw [show (m : Int) % 128 * 2 ^ sh = ((m % 128 * 2 ^ sh : Nat) : Int) by push_cast; rfl, IntKind.wrap_u64]
    omega
  have h3 : acc ||| m % 128 * 2 ^ sh = acc + m % 128 * 2 ^ sh := by rw [or_at sh acc (m % 128) ha, Nat.mul_comm]
  refine ⟨by rw [h2, u64_or_nat _ _ ha2 (by omega), h3], ?_, ?_⟩
  · rw [← h3]
    have : acc ||| m % 128 * 2 ^ sh < 2 ^ 64 := Nat.or_lt_two_pow (by omega) (by omega)
    omega
  · have h4 : m % 128 * 2 ^ sh ≤ 127 * 2 ^ sh := Nat.mul_le_mul_right _ (by omega)
    rw [Nat.pow_add]
    omega
theorem andnot128 (m : Nat) (h : m < 256) : bits .andNot .u8 (m : Int) 128 = ((m % 128 : Nat) : Int) := by
  rw [show (128 : Int) = ((128 : Nat) : Int) from rfl, u8_andNot_nat m 128 h (by omega), show (255 - 128 : Nat) = 2 ^ 7 - 1 from rfl, Nat.and_two_pow_sub_one_eq_mod]

/-- What stands at the begin of each round. -/
def EInv (w wr : World) (g B : Nat) (r : Option (Nat × List Int)) (sh acc : Nat) : Prop := ∃ cur bad, EyTo w wr g B cur bad ∧ r = numB bad sh acc cur ∧ Bytes cur ∧ acc < 2 ^ sh ∧ acc < 18446744073709551616 ∧ sh ≤ 70

theorem nat_pos_int (n : Nat) : decide (0 < (n : Int)) = decide (0 < n) := decide_eq_decide.2 (by omega)
theorem enum_quo (sh m : Nat) : ((18446744073709551615 : Int) / 2 ^ sh < (m : Int) % 128) ↔ 18446744073709551615 / 2 ^ sh < m % 128 := by
  have h : ∀ a : Nat, (a : Int) / 2 ^ sh = ((a / 2 ^ sh : Nat) : Int) := fun a => by simp
  have := h 18446744073709551615
  rw [show (18446744073709551615 : Int) = ((18446744073709551615 : Nat) : Int) from rfl, this]; omega
theorem enum_facts (sh m : Nat) : ((decide (0 < (sh : Int)) = false ∨ ((m : Int) == 0) = false) ∧ decide (63 < (sh : Int)) = false ∧ decide ((18446744073709551615 : Int) / 2 ^ sh < (m : Int) % 128) = false → ¬ ((0 < sh ∧ (m : Int) = 0) ∨ 63 < sh ∨ 18446744073709551615 / 2 ^ sh < m % 128)) ∧
    (¬ ((decide (0 < (sh : Int)) = false ∨ ((m : Int) == 0) = false) ∧ decide (63 < (sh : Int)) = false ∧ decide ((18446744073709551615 : Int) / 2 ^ sh < (m : Int) % 128) = false) →
      ((decide (0 < (sh : Int)) = true ∧ ((m : Int) == 0) = true) ∨ ((decide (0 < (sh : Int)) = true ∧ ((m : Int) == 0) = false) ∧ decide (63 < (sh : Int)) = true) ∨ (decide (0 < (sh : Int)) = false ∧ decide (63 < (sh : Int)) = true) ∨
        ((decide (0 < (sh : Int)) = true ∧ ((m : Int) == 0) = false) ∧ decide (63 < (sh : Int)) = false ∧ decide ((18446744073709551615 : Int) / 2 ^ sh < (m : Int) % 128) = true) ∨ (decide (0 < (sh : Int)) = false ∧ decide (63 < (sh : Int)) = false ∧ decide ((18446744073709551615 : Int) / 2 ^ sh < (m : Int) % 128) = true))) := by
  constructor
  · rintro ⟨h1, h2, h3⟩ (⟨a, b⟩ | a | a)
    · rcases h1 with h1 | h1
      · have := of_decide_eq_false h1; omega
      · rw [b] at h1; simp at h1
    · have := of_decide_eq_false h2; omega
    · exact of_decide_eq_false h3 ((enum_quo sh m).2 a)
  · generalize decide (0 < (sh : Int)) = a
    generalize ((m : Int) == 0) = b
    generalize decide (63 < (sh : Int)) = c
    generalize decide ((18446744073709551615 : Int) / 2 ^ sh < (m : Int) % 128) = d
    revert a b c d
    decide
theorem enum_no (sh m : Nat) (h : ¬ ((0 < sh ∧ (m : Int) = 0) ∨ 63 < sh ∨ 18446744073709551615 / 2 ^ sh < m % 128)) :
    (decide (0 < (sh : Int)) = false ∨ (decide (0 < (sh : Int)) = true ∧ ((m : Int) == 0) = false)) ∧ decide (63 < (sh : Int)) = false ∧ decide ((18446744073709551615 : Int) / 2 ^ sh < (m : Int) % 128) = false := by
  refine ⟨?_, decide_eq_false (fun a => h (.inr (.inl (by omega)))), decide_eq_false (fun a => h (.inr (.inr ((enum_quo sh m).1 a))))⟩
  by_cases a : 0 < sh
  · refine .inr ⟨decide_eq_true (by omega), ?_⟩
    cases b : ((m : Int) == 0)
    · rfl
    · exact absurd (.inl ⟨a, by simpa using b⟩) h
  · exact .inl (decide_eq_false (by omega))

set_option maxRecDepth 100000 in
set_option maxHeartbeats 4000000 in
theorem enum_any (g B : Nat) (l : List Int) (bad : Bool) (most : Nat) (w : World) (hk : Ey w g B l bad) (hb : Bytes l) (hm : most < 18446744073709551616) :
    Calls Try.prog 21 #[.pointer (some ⟨g, 0, none⟩), .int .u64 most] w fun e w' => e = .returned (.int .u64 (eNum most l bad).1) ∧ EyTo w w' g B (eNum most l bad).2.1 (eNum most l bad).2.2 := by
  unfold eNum
  obtain ⟨r, hr⟩ : ∃ r, numB bad 0 0 l = r := ⟨_, rfl⟩
  rw [hr]
  obtain ⟨⟨rv, rl, rb⟩, hres⟩ : ∃ x, eRes most r = x := ⟨_, rfl⟩
  rw [hres]
  have HRES := Aside0.mk hres
  clear hres
  show Calls Try.prog 21 #[.pointer (some ⟨g, 0, none⟩), .int .u64 most] w fun e w' => e = .returned (.int .u64 rv) ∧ EyTo w w' g B rl rb
  have H0 : Aside0 (EInv w w g B r 0 0) := ⟨l, bad, EyTo.refl hk, hr.symm, hb, by decide, by decide, by decide⟩
  clear hk hb hr
  go_enter Try.func21, Try.ntmps21
  go_wp2_with fail
  go_loopw [5, 6] (fun v5 v6 wr => ∃ sh acc : Nat, v5 = .int .u64 acc ∧ v6 = .int .i64 sh ∧ sh ≤ 70 ∧ Aside0 (EInv w wr g B r sh acc)) (fun v5 v6 _ => 77 - (intOf v6).toNat)
  case atStart => exact ⟨0, 0, rfl, rfl, by decide, H0⟩
  case round =>
    clear H0
    obtain ⟨sh, acc, rfl, rfl, hsh, H⟩ := hrel
    obtain ⟨cur, bd, hE, hr, hby, ha, ha2, _⟩ := H.out
    have KEY := Aside0.mk (ebyte_any g B cur bd wr hE.1)
    have HE := Aside0.mk hE
    have HR := Aside0.mk hr
    have HBY := Aside0.mk hby
    have HA := Aside0.mk (⟨ha, ha2⟩ : acc < 2 ^ sh ∧ acc < 18446744073709551616)
    clear hE hr hby ha ha2 H
    go_wp2_with fail
    refine KEY.out.mono ?_
    rintro e w1 ⟨rfl, h⟩
    unfold eByte at h ⊢
    by_cases hc : bd = true ∨ cur.length < 1
    · rw [if_pos hc] at h ⊢
      have hrn : r = none := by
        rw [HR.out]; unfold numB
        rcases hc with h | h
        · rw [if_pos h]
        · split
          · rfl
          · match cur, h with
            | [], _ => rfl
      subst hrn
      obtain ⟨rfl, rfl, rfl⟩ : rv = 0 ∧ rl = [] ∧ rb = true := by have := HRES.out; simp only [eRes, Prod.mk.injEq] at this; exact ⟨this.1.symm, this.2.1.symm, this.2.2.symm⟩
      have H1 := Aside0.mk (HE.out.trans h)
      have KW := Aside0.mk (wrong_any g B [] true w1 h.1)
      have KF := Aside0.mk (efail_any g B [] true w1 h.1)
      have e0 : bits .andNot .u8 0 128 = 0 := by decide
      clear h KEY HE HR HBY HA hc
      go_wp2_with fail
      refine KW.out.mono ?_
      rintro e w2 ⟨rfl, rfl⟩
      clear KW
      go_wp2_with fail
      refine KF.out.mono ?_
      rintro e w3 ⟨rfl, h⟩
      have H2 := Aside0.mk (H1.out.trans h)
      clear KF h H1
      go_wp2_with fail
      go_ret
      exact ⟨rfl, H2.out⟩
    · rw [if_neg hc] at h ⊢
      obtain ⟨b, cur', hcur⟩ : ∃ b t, cur = b :: t := by
        match cur, hc with
        | [], hc => exact absurd (.inr (by simp)) hc
        | b :: t, _ => exact ⟨b, t, rfl⟩
      have hbd : bd = false := by
        cases bd
        · rfl
        · exact absurd (.inl rfl) hc
      subst hbd hcur
      have hbb := HBY.out b (by simp)
      have hby' : Bytes cur' := fun x hx => HBY.out x (List.mem_cons_of_mem _ hx)
      obtain ⟨m, rfl⟩ := Int.eq_ofNat_of_zero_le hbb.1
      simp only [List.headD_cons, List.drop_succ_cons, List.drop_zero] at h ⊢
      have hr := HR.out
      unfold numB at hr
      rw [if_neg (by decide)] at hr
      simp only [numR, Int.toNat_natCast] at hr
      have H1 := Aside0.mk (HE.out.trans h)
      have KW := Aside0.mk (wrong_any g B cur' false w1 h.1)
      have KF := Aside0.mk (efail_any g B cur' false w1 h.1)
      have HM := Aside0.mk hbb.2
      have e0 : bits .andNot .u8 (m : Int) 128 = ((m % 128 : Nat) : Int) := andnot128 m (by omega)
      clear h KEY HE HR HBY hc hbb
      by_cases hf : (0 < sh ∧ (m : Int) = 0) ∨ 63 < sh ∨ 18446744073709551615 / 2 ^ sh < m % 128
      · rw [if_pos hf] at hr
        subst hr
        obtain ⟨rfl, rfl, rfl⟩ : rv = 0 ∧ rl = [] ∧ rb = true := by have := HRES.out; simp only [eRes, Prod.mk.injEq] at this; exact ⟨this.1.symm, this.2.1.symm, this.2.2.symm⟩
        have key := enum_facts sh m
        have key2 : ¬ ((decide (0 < (sh : Int)) = false ∨ ((m : Int) == 0) = false) ∧ decide (63 < (sh : Int)) = false ∧ decide ((18446744073709551615 : Int) / 2 ^ sh < (m : Int) % 128) = false) := fun h => by
          have := key.1 h
          exact this hf
        have key3 := key.2 key2
        clear key key2 hf
        rcases key3 with ⟨d1, d2⟩ | ⟨⟨d1, d2⟩, d3⟩ | ⟨d1, d3⟩ | ⟨⟨d1, d2⟩, d3, d4⟩ | ⟨d1, d3, d4⟩
        all_goals
          have d1' := d1
          rw [nat_pos_int] at d1'
          try (have hmin : min sh 64 = sh := by have := of_decide_eq_false d3; omega)
          go_wp2_with fail
          refine KW.out.mono ?_
          rintro e w2 ⟨rfl, rfl⟩
          clear KW
          go_wp2_with fail
          refine KF.out.mono ?_
          rintro e w3 ⟨rfl, h⟩
          have H2 := Aside0.mk (H1.out.trans h)
          clear KF h H1
          go_wp2_with fail
          go_ret
          exact ⟨rfl, H2.out⟩
      · rw [if_neg hf] at hr
        have hno := enum_no sh m hf
        have h63 : ¬ 63 < sh := fun h => hf (.inr (.inl h))
        obtain ⟨E, hN1, hN2⟩ := or_u64 acc m sh HA.out.1 h63 (fun h => hf (.inr (.inr h))) HA.out.2
        generalize acc + m % 128 * 2 ^ sh = N at *
        have HRR := Aside0.mk hr
        have HSH := Aside0.mk h63
        have HN := Aside0.mk (⟨hN1, hN2⟩ : N < 18446744073709551616 ∧ N < 2 ^ (sh + 7))
        clear hr hf h63 hN1 hN2 HA
        obtain ⟨d1, d3, d4⟩ := hno
        by_cases hm8 : m < 128
        · have e8 : decide ((m : Int) < 128) = true := decide_eq_true (by omega)
          have e8' : decide (m < 128) = true := decide_eq_true hm8
          have hrr := HRR.out
          rw [if_pos (by omega)] at hrr
          subst hrr
          by_cases hmo : most < N
          · obtain ⟨rfl, rfl, rfl⟩ : rv = 0 ∧ rl = [] ∧ rb = true := by have := HRES.out; simp only [eRes, if_pos hmo, Prod.mk.injEq] at this; exact ⟨this.1.symm, this.2.1.symm, this.2.2.symm⟩
            have e9 : decide ((most : Int) < (N : Int)) = true := decide_eq_true (by omega)
            have e9' : decide (most < N) = true := decide_eq_true hmo
            clear HRR hm8 hmo
            rcases d1 with d1 | ⟨d1, d2⟩
            all_goals
              have d1' := d1
              rw [nat_pos_int] at d1'
              have hmin : min sh 64 = sh := by have := of_decide_eq_false d3; omega
              go_wp2_with fail
              refine KW.out.mono ?_
              rintro e w2 ⟨rfl, rfl⟩
              clear KW
              go_wp2_with fail
              refine KF.out.mono ?_
              rintro e w3 ⟨rfl, h⟩
              have H2 := Aside0.mk (H1.out.trans h)
              clear KF h H1
              go_wp2_with fail
              go_ret
              exact ⟨rfl, H2.out⟩
          · obtain ⟨rfl, rfl, rfl⟩ : rv = (N : Int) ∧ rl = cur' ∧ rb = false := by have := HRES.out; simp only [eRes, if_neg hmo, Prod.mk.injEq] at this; exact ⟨this.1.symm, this.2.1.symm, this.2.2.symm⟩
            have e9 : decide ((most : Int) < (N : Int)) = false := decide_eq_false (by omega)
            have e9' : decide (most < N) = false := decide_eq_false hmo
            clear HRR hm8 hmo KF
            rcases d1 with d1 | ⟨d1, d2⟩
            all_goals
              have d1' := d1
              rw [nat_pos_int] at d1'
              have hmin : min sh 64 = sh := by have := of_decide_eq_false d3; omega
              go_wp2_with fail
              refine KW.out.mono ?_
              rintro e w2 ⟨rfl, rfl⟩
              clear KW
              go_wp2_with fail
              go_ret
              exact ⟨rfl, H1.out⟩
        · have e8 : decide ((m : Int) < 128) = false := decide_eq_false (by omega)
          have e8' : decide (m < 128) = false := decide_eq_false hm8
          have hrr := HRR.out
          rw [if_neg (by omega)] at hrr
          have H2 : Aside0 (EInv w w1 g B r (sh + 7) N) := ⟨cur', false, H1.out, by rw [hrr]; rfl, hby', HN.out.2, HN.out.1, by have := HSH.out; omega⟩
          have HWS : wrap64 ((sh : Int) + 7) = ((sh + 7 : Nat) : Int) := by unfold wrap64; omega
          clear HRR hm8 hrr H1 KF
          rcases d1 with d1 | ⟨d1, d2⟩
          all_goals
            have d1' := d1
            rw [nat_pos_int] at d1'
            have hmin : min sh 64 = sh := by have := of_decide_eq_false d3; omega
            go_wp2_with fail
            refine KW.out.mono ?_
            rintro e w2 ⟨rfl, rfl⟩
            clear KW
            go_wp2_with fail
            go_roundw
            case rel => exact ⟨sh + 7, N, rfl, by first | rfl | (rw [← HWS]; rfl) | simp, by have := HSH.out; omega, H2⟩
            case measure => have := HSH.out; simp [intOf]; omega
end Go.Proofs.Ythllblcbmpehlaa
