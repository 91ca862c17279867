/- ink.Eye: Half, Word. -/
import Derived.Test.YthllblcbmpehlaaNe
namespace Go.Proofs.Ythllblcbmpehlaa
open Go.RowKit Go.Proofs.YthllblcbmpehlaaW.PrintWords Go.Proofs.YthllblcbmpehlaaW.PrintLast Go.Proofs.YthllblcbmpehlaaW.PrintMore
set_option linter.unusedVariables false
set_option linter.unusedSimpArgs false

/-- A number, its lowest byte first. -/
def leN : List Int → Int
  | [] => 0
  | b :: l => b + 256 * leN l
/-- What Half, Word tell. -/
def eFix (k : Nat) (l : List Int) (bad : Bool) : Int × List Int × Bool := if bad = true ∨ l.length < k then (0, [], true) else (leN (l.take k), l.drop k, false)

theorem EyTo.drew {w w1 : World} {g B : Nat} {l : List Int} {b : Bool} (h : EyTo w w1 g B l b) : EyTo w w1.drew g B l b :=
  ⟨h.1, h.2.1, h.2.2.drew⟩
theorem or_at (i x y : Nat) (hx : x < 2 ^ i) : x ||| y * 2 ^ i = x + 2 ^ i * y := by
  rw [Nat.or_comm, Nat.mul_comm, ← Nat.two_pow_add_eq_or_of_lt hx, Nat.add_comm]
theorem half_v (x y : Nat) (hx : x < 256) (hy : y < 256) : bits .or .u16 (x : Int) ((y : Int) * 256) = ((x + 256 * y : Nat) : Int) := by
  rw [show (y : Int) * 256 = ((y * 2 ^ 8 : Nat) : Int) by omega, u16_or_nat _ _ (by omega) (by omega), or_at 8 x y (by omega)]
theorem word_v (x y z t : Nat) (hx : x < 256) (hy : y < 256) (hz : z < 256) (ht : t < 256) : bits .or .u32 (bits .or .u32 (bits .or .u32 (x : Int) ((y : Int) * 256)) ((z : Int) * 65536)) ((t : Int) * 16777216) = ((x + 256 * (y + 256 * (z + 256 * t)) : Nat) : Int) := by
  rw [show (y : Int) * 256 = ((y * 2 ^ 8 : Nat) : Int) by omega, u32_or_nat _ _ (by omega) (by omega), or_at 8 x y (by omega),
    show (z : Int) * 65536 = ((z * 2 ^ 16 : Nat) : Int) by omega, u32_or_nat _ _ (by omega) (by omega), or_at 16 _ z (by omega),
    show (t : Int) * 16777216 = ((t * 2 ^ 24 : Nat) : Int) by omega, u32_or_nat _ _ (by omega) (by omega), or_at 24 _ t (by omega)]
  omega

set_option maxHeartbeats 1000000 in
theorem ehalf_any (g B : Nat) (l : List Int) (bad : Bool) (w : World) (hk : Ey w g B l bad) (hb : Bytes l) :
    Calls Try.prog 30 #[.pointer (some ⟨g, 0, none⟩)] w fun e w' => e = .returned (.int .u16 (eFix 2 l bad).1) ∧ EyTo w w' g B (eFix 2 l bad).2.1 (eFix 2 l bad).2.2 := by
  unfold eFix
  by_cases hc : bad = true ∨ l.length < 2
  · rw [if_pos hc]
    have KEY := Aside0.mk (take_no g B l bad 2 w hk hc)
    have hz := fun w => nz_slice none 0 0 w
    clear hk hc hb
    go_enter Try.func30, Try.ntmps30
    go_wp2_with fail
    refine KEY.out.mono ?_
    rintro e w1 ⟨rfl, h⟩
    have H := Aside0.mk h
    clear h KEY
    go_wp2_with fail
    go_ret
    exact ⟨rfl, H.out⟩
  · rw [if_neg hc]
    have hbb : bad = false := by cases bad; rfl; exact absurd (.inl rfl) hc
    subst hbb
    have hl : 2 ≤ l.length := by rcases Nat.lt_or_ge l.length 2 with h | h; exact absurd (.inr h) hc; exact h
    have KEY := Aside0.mk (take_ok g B l 2 w hk hl)
    have hz := fun a w => nz_slice (some a) 2 2 w
    obtain ⟨x, y, hxy, hx, hy⟩ : ∃ x y : Nat, l.take 2 = [(x : Int), (y : Int)] ∧ x < 256 ∧ y < 256 := by
      match l, hl, hb with
      | a :: b :: t, _, hb =>
        have h1 := hb a (by simp)
        have h2 := hb b (by simp)
        exact ⟨a.toNat, b.toNat, by simp; omega, by omega, by omega⟩
    have HL := Aside0.mk hxy
    have HV : Aside0 (leN (l.take 2) = ((x + 256 * y : Nat) : Int)) := ⟨by rw [hxy]; simp [leN]⟩
    rw [HV.out]
    have hx' : (x : Int) ≤ 255 := by omega
    have hy' : (y : Int) ≤ 255 := by omega
    have HE := Aside0.mk (half_v x y hx hy)
    clear hk hc hl hb hxy hx hy
    generalize l.drop 2 = ld at *
    go_enter Try.func30, Try.ntmps30
    go_wp2_with fail
    refine KEY.out.mono ?_
    rintro e w1 ⟨A', rfl, hC, h⟩
    rw [HL.out] at hC
    obtain ⟨ad, rfl, c0⟩ := int_at hC 0 (by simp)
    obtain ⟨ad', e', c1⟩ := int_at hC 1 (by simp)
    obtain rfl := Option.some.inj e'
    rw [List.getElem_cons_zero, add0] at c0
    rw [List.getElem_cons_succ, List.getElem_cons_zero, show ad.add 1 = ⟨ad.block, ad.off + 1, none⟩ from rfl] at c1
    have H := Aside0.mk h
    clear h KEY hC
    go_wp2_with fail
    go_region
    go_wp2_with fail
    rw [HE.out]
    go_ret
    exact ⟨rfl, H.out.drew⟩

set_option maxHeartbeats 1000000 in
theorem eword_any (g B : Nat) (l : List Int) (bad : Bool) (w : World) (hk : Ey w g B l bad) (hb : Bytes l) :
    Calls Try.prog 31 #[.pointer (some ⟨g, 0, none⟩)] w fun e w' => e = .returned (.int .u32 (eFix 4 l bad).1) ∧ EyTo w w' g B (eFix 4 l bad).2.1 (eFix 4 l bad).2.2 := by
  unfold eFix
  by_cases hc : bad = true ∨ l.length < 4
  · rw [if_pos hc]
    have KEY := Aside0.mk (take_no g B l bad 4 w hk hc)
    have hz := fun w => nz_slice none 0 0 w
    clear hk hc hb
    go_enter Try.func31, Try.ntmps31
    go_wp2_with fail
    refine KEY.out.mono ?_
    rintro e w1 ⟨rfl, h⟩
    have H := Aside0.mk h
    clear h KEY
    go_wp2_with fail
    go_ret
    exact ⟨rfl, H.out⟩
  · rw [if_neg hc]
    have hbb : bad = false := by cases bad; rfl; exact absurd (.inl rfl) hc
    subst hbb
    have hl : 4 ≤ l.length := by rcases Nat.lt_or_ge l.length 4 with h | h; exact absurd (.inr h) hc; exact h
    have KEY := Aside0.mk (take_ok g B l 4 w hk hl)
    have hz := fun a w => nz_slice (some a) 4 4 w
    obtain ⟨x, y, z, t, hxy, hx, hy, hz0, ht⟩ : ∃ x y z t : Nat, l.take 4 = [(x : Int), (y : Int), (z : Int), (t : Int)] ∧ x < 256 ∧ y < 256 ∧ z < 256 ∧ t < 256 := by
      match l, hl, hb with
      | a :: b :: c :: d :: t, _, hb =>
        have h1 := hb a (by simp)
        have h2 := hb b (by simp)
        have h3 := hb c (by simp)
        have h4 := hb d (by simp)
        exact ⟨a.toNat, b.toNat, c.toNat, d.toNat, by simp; omega, by omega, by omega, by omega, by omega⟩
    have HL := Aside0.mk hxy
    have HV : Aside0 (leN (l.take 4) = ((x + 256 * (y + 256 * (z + 256 * t)) : Nat) : Int)) := ⟨by rw [hxy]; simp [leN]⟩
    rw [HV.out]
    have hx' : (x : Int) ≤ 255 := by omega
    have hy' : (y : Int) ≤ 255 := by omega
    have hz' : (z : Int) ≤ 255 := by omega
    have ht' : (t : Int) ≤ 255 := by omega
    have HE := Aside0.mk (word_v x y z t hx hy hz0 ht)
    clear hk hc hl hb hxy hx hy hz0 ht
    generalize l.drop 4 = ld at *
    go_enter Try.func31, Try.ntmps31
    go_wp2_with fail
    refine KEY.out.mono ?_
    rintro e w1 ⟨A', rfl, hC, h⟩
    rw [HL.out] at hC
    obtain ⟨ad, rfl, c0⟩ := int_at hC 0 (by simp)
    obtain ⟨ad', e', c1⟩ := int_at hC 1 (by simp)
    obtain rfl := Option.some.inj e'
    obtain ⟨ad', e', c2⟩ := int_at hC 2 (by simp)
    obtain rfl := Option.some.inj e'
    obtain ⟨ad', e', c3⟩ := int_at hC 3 (by simp)
    obtain rfl := Option.some.inj e'
    rw [List.getElem_cons_zero, add0] at c0
    rw [List.getElem_cons_succ, List.getElem_cons_zero, show ad.add 1 = ⟨ad.block, ad.off + 1, none⟩ from rfl] at c1
    rw [List.getElem_cons_succ, List.getElem_cons_succ, List.getElem_cons_zero, show ad.add 2 = ⟨ad.block, ad.off + 2, none⟩ from rfl] at c2
    rw [List.getElem_cons_succ, List.getElem_cons_succ, List.getElem_cons_succ, List.getElem_cons_zero, show ad.add 3 = ⟨ad.block, ad.off + 3, none⟩ from rfl] at c3
    have H := Aside0.mk h
    clear h KEY hC
    go_wp2_with fail
    go_region
    go_wp2_with fail
    rw [HE.out]
    go_ret
    exact ⟨rfl, H.out.drew⟩
end Go.Proofs.Ythllblcbmpehlaa
