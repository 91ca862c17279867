/- The library's TrailingZeros32 and OnesCount32; the observers of a mask. -/
import Derived.Test.YthimlgkegobaeaaDoorWWords
import Derived.Test.YthimlgkegobaeaaDoorWLast
import Derived.Test.YthimlgkegobaeaaDoorWMore
import Derived.Test.YthimlgkegobaeaaDoorWKept
import Derived.WalkKit
import Derived.Lib.Hide
import Derived.Laws.BitsAllLaws
import Derived.Lib.TrailingZeros
import Derived.Lib.LaidTab
import Derived.RegionTactic
import Derived.BigRegion
import Derived.Test.YthimlgkegobaeaaDoorChecked
namespace Go.Proofs.YthimlgkegobaeaaDoor
open Go.RowKit Go.Proofs.YthimlgkegobaeaaDoorW.PrintWords Go.Proofs.YthimlgkegobaeaaDoorW.PrintLast Go.Proofs.YthimlgkegobaeaaDoorW.PrintMore
set_option linter.unusedVariables false
set_option linter.unusedSimpArgs false

/-- The library's table lies in its variable. -/
def TabAt (w : World) : Prop := ∀ j, j < 32 → w.cell? ⟨2, j, none⟩ = some (.int .u8 (Lib.deBruijn32tab.getD j 0))
theorem TabAt.below {w w' : World} (h : TabAt w) (hb : Below w.heap.size w w') : TabAt w' := fun j hj => pw_cell_below hb (h j hj)


theorem tz32_key (x a : Nat) (hx : x < 4294967296) (hx0 : x ≠ 0) (hlow : x &&& (4294967296 - x) = a) :
    bits BinOp.and IntKind.u32 (x : Int) (-(x : Int) % 4294967296) * 125613361 % 4294967296 / 134217728 = ((a * 125613361 % 4294967296 / 134217728 : Nat) : Int) := by
  have e1 : -(x : Int) % 4294967296 = ((4294967296 - x : Nat) : Int) := by omega
  rw [e1, u32_and_nat x _ hx (by omega), hlow]
  omega

set_option maxHeartbeats 1000000 in
theorem tz32_core (x k idx : Nat) (w : World) (hx0 : ((x : Int) == 0) = false)
    (key : bits BinOp.and IntKind.u32 (x : Int) (-(x : Int) % 4294967296) * 125613361 % 4294967296 / 134217728 = (idx : Int))
    (hi : idx < 32) (hk : k < 32) (hcell : w.cell? ⟨2, idx, none⟩ = some (.int .u8 k)) :
    Calls Tryd.prog 83 #[.int .u32 x] w fun e w' => e = .returned (.int .i64 k) ∧ Below w.heap.size w w' := by
  go_enter Tryd.func83, Tryd.ntmps83
  go_wp2_with (simp only [key])
  go_ret
  exact ⟨rfl, by repeat (first | exact Below.refl _ _ | apply pw_below_drewN | apply below_drew1)⟩
set_option maxHeartbeats 1000000 in
theorem tz32_zero (w : World) :
    Calls Tryd.prog 83 #[.int .u32 0] w fun e w' => e = .returned (.int .i64 32) ∧ Below w.heap.size w w' := by
  go_enter Tryd.func83, Tryd.ntmps83
  go_wp2
  go_ret
  exact ⟨rfl, by repeat (first | exact Below.refl _ _ | apply pw_below_drewN | apply below_drew1)⟩
theorem tz32_any (x : Nat) (hx : x < 4294967296) (w : World) (hT : TabAt w) :
    Calls Tryd.prog 83 #[.int .u32 x] w fun e w' => e = .returned (.int .i64 (Lib.ctz 32 x)) ∧ Below w.heap.size w w' := by
  by_cases hx0 : x = 0
  · subst hx0
    exact tz32_zero w
  · obtain ⟨hlow, hk⟩ := Lib.lowest_bit 32 x hx0 hx
    obtain ⟨hi, htab⟩ := Lib.deBruijn32_at _ hk
    have hcell := hT _ hi
    rw [htab] at hcell
    exact tz32_core x _ _ w (by simp; omega) (tz32_key x _ hx hx0 hlow) hi hk hcell


def pop (n b : Nat) : Nat := ((List.range n).filter fun i => b.testBit i).length

set_option maxRecDepth 100000 in
theorem tab8 : ∀ a : Fin 256, ((⟨#[0, 1, 1, 2, 1, 2, 2, 3, 1, 2, 2, 3, 2, 3, 3, 4, 1, 2, 2, 3, 2, 3, 3, 4, 2, 3, 3, 4, 3, 4, 4, 5, 1, 2, 2, 3, 2, 3, 3, 4, 2, 3, 3, 4, 3, 4, 4, 5, 2, 3, 3, 4, 3, 4, 4, 5, 3, 4, 4, 5, 4, 5, 5, 6, 1, 2, 2, 3, 2, 3, 3, 4, 2, 3, 3, 4, 3, 4, 4, 5, 2, 3, 3, 4, 3, 4, 4, 5, 3, 4, 4, 5, 4, 5, 5, 6, 2, 3, 3, 4, 3, 4, 4, 5, 3, 4, 4, 5, 4, 5, 5, 6, 3, 4, 4, 5, 4, 5, 5, 6, 4, 5, 5, 6, 5, 6, 6, 7, 1, 2, 2, 3, 2, 3, 3, 4, 2, 3, 3, 4, 3, 4, 4, 5, 2, 3, 3, 4, 3, 4, 4, 5, 3, 4, 4, 5, 4, 5, 5, 6, 2, 3, 3, 4, 3, 4, 4, 5, 3, 4, 4, 5, 4, 5, 5, 6, 3, 4, 4, 5, 4, 5, 5, 6, 4, 5, 5, 6, 5, 6, 6, 7, 2, 3, 3, 4, 3, 4, 4, 5, 3, 4, 4, 5, 4, 5, 5, 6, 3, 4, 4, 5, 4, 5, 5, 6, 4, 5, 5, 6, 5, 6, 6, 7, 3, 4, 4, 5, 4, 5, 5, 6, 4, 5, 5, 6, 5, 6, 6, 7, 4, 5, 5, 6, 5, 6, 6, 7, 5, 6, 6, 7, 6, 7, 7, 8]⟩ : ByteArray)[a.1]'(Nat.lt_of_lt_of_eq a.2 (by decide +kernel))).toNat = pop 8 a.1 := by decide +kernel
theorem pop_le (n b : Nat) : pop n b ≤ n := by
  unfold pop
  exact Nat.le_trans (List.length_filter_le _ _) (by simp)
theorem pop_add (m n b : Nat) : pop (m + n) b = pop m b + pop n (b / 2 ^ m) := by
  unfold pop
  rw [List.range_add, List.filter_append, List.length_append, List.filter_map, List.length_map]
  congr 2
  apply List.filter_congr
  intro i _
  simp only [Function.comp]
  rw [Nat.testBit_div_two_pow, Nat.add_comm]
theorem pop_mod (n b : Nat) : pop n (b % 2 ^ n) = pop n b := by
  unfold pop
  congr 1
  apply List.filter_congr
  intro i hi
  rw [Nat.testBit_mod_two_pow]
  simp [List.mem_range.1 hi]
theorem pop_32 (x : Nat) : pop 32 x = pop 8 (x % 256) + pop 8 (x / 256 % 256) + pop 8 (x / 65536 % 256) + pop 8 (x / 16777216 % 256) := by
  have a := pop_add 8 24 x
  have b := pop_add 8 16 (x / 2 ^ 8)
  have c := pop_add 8 8 (x / 2 ^ 8 / 2 ^ 8)
  rw [Nat.div_div_eq_div_mul] at b c
  rw [Nat.div_div_eq_div_mul] at c
  have e0 := pop_mod 8 x
  have e1 := pop_mod 8 (x / 2 ^ 8)
  have e2 := pop_mod 8 (x / (2 ^ 8 * 2 ^ 8))
  have e3 := pop_mod 8 (x / (2 ^ 8 * 2 ^ 8 * 2 ^ 8))
  simp only [show (2 : Nat) ^ 8 = 256 from rfl, show 256 * 256 = 65536 from rfl, show 65536 * 256 = 16777216 from rfl, show 8 + 24 = 32 from rfl, show 8 + 16 = 24 from rfl, show 8 + 8 = 16 from rfl] at *
  omega
theorem and255 (y : Nat) (hy : y < 4294967296) : bits .and .u32 (y : Int) 255 = ((y % 256 : Nat) : Int) := by
  rw [show (255 : Int) = ((255 : Nat) : Int) from rfl, u32_and_nat y 255 hy (by omega)]
  rw [show (255 : Nat) = 2 ^ 8 - 1 from rfl, Nat.and_two_pow_sub_one_eq_mod]

/-- The observers of a mask, rising. -/
def obsL (m : Nat) : List Nat := (List.range 32).filter fun i => m.testBit i
def obsF (m : Nat) : List (Fin 32) := (List.finRange 32).filter fun i => m.testBit i.val
theorem obsF_val (m : Nat) : (obsF m).map Fin.val = obsL m := by
  unfold obsF obsL
  rw [show List.range 32 = (List.finRange 32).map Fin.val from by decide, List.filter_map]; rfl
theorem filter_first (p q : Nat → Bool) (k : Nat) : ∀ n, (∀ i, i < n → p i = (decide (i = k) || q i)) → (∀ i, i ≤ k → q i = false) → (List.range n).filter p = if k < n then k :: (List.range n).filter q else []
  | 0, _, _ => by simp
  | n + 1, hp, hq => by
    rw [List.range_succ, List.filter_append, List.filter_append, filter_first p q k n (fun i hi => hp i (by omega)) hq]
    have hn := hp n (by omega)
    rcases Nat.lt_trichotomy k n with h | h | h
    · rw [if_pos h, if_pos (by omega)]
      have : p n = q n := by rw [hn, decide_eq_false (by omega)]; rfl
      simp only [List.filter_cons, List.filter_nil, this, List.cons_append]
    · subst h
      rw [if_neg (by omega), if_pos (by omega)]
      have e1 : p k = true := by rw [hn]; simp
      have e2 : q k = false := hq k (Nat.le_refl _)
      have e3 : (List.range k).filter q = [] := by
        rw [List.filter_eq_nil_iff]; intro i hi; rw [hq i (by have := List.mem_range.1 hi; omega)]; decide
      simp [List.filter_cons, e1, e2, e3]
    · rw [if_neg (by omega), if_neg (by omega)]
      have : p n = false := by rw [hn, decide_eq_false (by omega), hq n (by omega)]; rfl
      simp [List.filter_cons, this]
theorem low_off (x : Nat) (h0 : x ≠ 0) (h : x < 4294967296) : ∀ i, (x &&& (x - 1)).testBit i = (x.testBit i && !decide (i = Lib.ctz 32 x)) ∧ (i < Lib.ctz 32 x → x.testBit i = false) ∧ x.testBit (Lib.ctz 32 x) = true := by
  obtain ⟨m, hm, hk⟩ := Lib.ctzFrom_spec 32 x (by omega) (by simpa using h)
  have hc : Lib.ctz 32 x = Lib.ctzFrom 32 x := by unfold Lib.ctz; rw [if_neg h0]
  rw [hc]
  generalize Lib.ctzFrom 32 x = k at *
  have e1 : x = 2 ^ k * (2 * m + 1) + 0 := by omega
  have hp : 0 < 2 ^ k := Nat.two_pow_pos k
  have e2 : x - 1 = 2 ^ k * (2 * m) + (2 ^ k - 1) := by rw [hm, Nat.mul_add]; omega
  have t1 : ∀ j, x.testBit j = if j < k then false else (2 * m + 1).testBit (j - k) := fun j => by
    rw [e1, Nat.testBit_two_pow_mul_add _ hp]; simp
  have t2 : ∀ j, (x - 1).testBit j = if j < k then (2 ^ k - 1).testBit j else (2 * m).testBit (j - k) := fun j => by
    rw [e2, Nat.testBit_two_pow_mul_add _ (by omega)]
  intro i
  refine ⟨?_, fun hi => by rw [t1, if_pos hi], by rw [t1, if_neg (by omega), Nat.sub_self]; simp⟩
  rw [Nat.testBit_and, t1, t2]
  by_cases hi : i < k
  · rw [if_pos hi, if_pos hi]; rfl
  · rw [if_neg hi, if_neg hi]
    by_cases he : i = k
    · subst he; rw [Nat.sub_self]; simp
    · rw [decide_eq_false he]
      obtain ⟨j, hj⟩ : ∃ j, i - k = j + 1 := ⟨i - k - 1, by omega⟩
      rw [hj, Nat.testBit_succ, Nat.testBit_succ, show (2 * m + 1) / 2 = m by omega, show 2 * m / 2 = m by omega]
      simp
theorem obs_step (x : Nat) (h0 : x ≠ 0) (h : x < 4294967296) : obsL x = Lib.ctz 32 x :: obsL (x &&& (x - 1)) := by
  have hk := (Lib.lowest_bit 32 x h0 (by simpa using h)).2
  have := filter_first (fun i => x.testBit i) (fun i => (x &&& (x - 1)).testBit i) (Lib.ctz 32 x) 32 (fun i _ => by
    obtain ⟨e1, _, e3⟩ := low_off x h0 h i
    show x.testBit i = _
    rw [e1]
    by_cases he : i = Lib.ctz 32 x
    · rw [he, e3]; simp
    · rw [decide_eq_false he]; simp) (fun i hi => by
    obtain ⟨e1, e2, _⟩ := low_off x h0 h i
    show (x &&& (x - 1)).testBit i = false
    rw [e1]
    rcases Nat.lt_or_eq_of_le hi with hlt | he
    · rw [e2 hlt]; rfl
    · rw [decide_eq_true he]; simp)
  rw [if_pos hk] at this
  exact this
theorem obsF_step (x : Nat) (h0 : x ≠ 0) (h : x < 4294967296) : obsF x = ⟨Lib.ctz 32 x, (Lib.lowest_bit 32 x h0 (by simpa using h)).2⟩ :: obsF (x &&& (x - 1)) := by
  refine (List.map_inj_right (f := Fin.val) (fun _ _ e => Fin.ext e)).1 ?_
  rw [List.map_cons, obsF_val, obsF_val]
  exact obs_step x h0 h
theorem obsF_zero : obsF 0 = [] := by
  refine (List.map_inj_right (f := Fin.val) (fun _ _ e => Fin.ext e)).1 ?_
  rw [obsF_val]; unfold obsL; simp
theorem off_lt (x : Nat) (h0 : x ≠ 0) : x &&& (x - 1) < x := Nat.lt_of_le_of_lt (Nat.and_le_right) (by omega)
theorem ones_obs (m : Nat) : pop 32 m = (obsL m).length := rfl
end Go.Proofs.YthimlgkegobaeaaDoor
