/- ink.Pen: Num, Blob, Bytes. -/
import Derived.Test.YthllblcbmpehlaaNb
namespace Go.Proofs.Ythllblcbmpehlaa
open Go.RowKit Go.Proofs.YthllblcbmpehlaaW.PrintWords Go.Proofs.YthllblcbmpehlaaW.PrintLast Go.Proofs.YthllblcbmpehlaaW.PrintMore
set_option linter.unusedVariables false
set_option linter.unusedSimpArgs false

/-- A number, in as few bytes as may be. -/
def numN (x : Nat) : List Int := if h : x < 128 then [(x : Int)] else ((x % 128 + 128 : Nat) : Int) :: numN (x / 128)
termination_by x
decreasing_by omega
theorem numN_lo {x : Nat} (h : x < 128) : numN x = [(x : Int)] := by rw [numN, dif_pos h]
theorem numN_hi {x : Nat} (h : ¬ x < 128) : numN x = ((x % 128 + 128 : Nat) : Int) :: numN (x / 128) := by rw [numN, dif_neg h]
theorem numN_le : ∀ (k x : Nat), x < 128 ^ (k + 1) → (numN x).length ≤ k + 1
  | 0, x, h => by rw [numN_lo (by simpa using h)]; simp
  | k + 1, x, h => by
    by_cases hx : x < 128
    · rw [numN_lo hx]; simp
    · rw [numN_hi hx, List.length_cons]
      have := numN_le k (x / 128) (Nat.div_lt_of_lt_mul (by rw [Nat.pow_succ] at h; omega))
      omega
theorem numN_ten {x : Nat} (h : x < 18446744073709551616) : (numN x).length ≤ 10 := numN_le 9 x (by omega)
theorem numN_bytes (x : Nat) : Bytes (numN x) := by
  induction x using Nat.strongRecOn with
  | _ x ih =>
    by_cases hx : x < 128
    · rw [numN_lo hx]; intro b hb; obtain rfl : b = (x : Int) := by simpa using hb
      omega
    · rw [numN_hi hx]
      intro b hb
      rcases List.mem_cons.1 hb with rfl | hb
      · omega
      · exact ih (x / 128) (by omega) b hb
theorem or128 (m : Nat) : bits .or .u8 ((m : Int) % 256) 128 = ((m % 128 + 128 : Nat) : Int) := by
  have h : ∀ a : Fin 256, a.val ||| 128 = a.val % 128 + 128 := by decide +kernel
  rw [show (m : Int) % 256 = ((m % 256 : Nat) : Int) by omega, show (128 : Int) = ((128 : Nat) : Int) from rfl, u8_or_nat _ _ (by omega) (by omega)]
  have := h ⟨m % 256, by omega⟩
  simp only at this
  rw [this]
  congr 1
  omega
/-- What stands at the begin of each round. -/
def NInv (w wr : World) (base g : Nat) (v : Value) (r : List Int) (m : Nat) : Prop := ∃ q v', m < 18446744073709551616 ∧ r = q ++ numN m ∧ q.length ≤ r.length ∧ PPut w wr base g v q v'

set_option maxRecDepth 100000 in
set_option maxHeartbeats 2000000 in
theorem pnum_any (base g : Nat) (p : List Int) (v : Value) (x : Nat) (hx : x < 18446744073709551616) (w : World) (hk : Pn w base g p v) (hb : base ≤ g) (hl : p.length ≤ 1000000) :
    Calls Try.prog 17 #[.pointer (some ⟨g, 0, none⟩), .int .u64 x] w fun e w' => ∃ v', e = .returned (.pointer (some ⟨g, 0, none⟩)) ∧ PPut w w' base g v (p ++ numN x) v' := by
  obtain ⟨r, hr⟩ : ∃ r, p ++ numN x = r := ⟨_, rfl⟩
  have hrl : r.length ≤ 1000010 := by rw [← hr, List.length_append]; have := numN_ten hx; omega
  have H0 : Aside0 (NInv w w base g v r x) := ⟨p, v, hx, hr.symm, by rw [← hr]; simp, PPut.of_below hk hb (Below.refl _ _)⟩
  have HB := Aside0.mk hb
  have HRL := Aside0.mk hrl
  rw [hr]
  clear hk hb hl hr hrl hx
  go_enter Try.func17, Try.ntmps17
  go_wp2_with fail
  go_loopw [1] (fun v1 wr => ∃ m : Nat, v1 = .int .u64 m ∧ Aside0 (NInv w wr base g v r m)) (fun v1 _ => (intOf v1).toNat)
  case atStart => exact ⟨x, rfl, H0⟩
  case round =>
    clear H0
    obtain ⟨m, rfl, H⟩ := hrel
    obtain ⟨q, v1, hm, hr, hql, hp⟩ := H.out
    have hrl := HRL.out
    by_cases hlt : 128 ≤ m
    · have h1 : decide ((128 : Int) ≤ (m : Int)) = true := decide_eq_true (by omega)
      have h1' : (128 : Int) ≤ (m : Int) := by omega
      have hal := below_alloc (Below.refl wr.heap.size wr) (.cells #[.int .u8 ((m % 128 + 128 : Nat) : Int)] 5)
      have KEY := Aside0.mk (add_any base g q [((m % 128 + 128 : Nat) : Int)] v1 (some ⟨wr.heap.size, 0, none⟩) 1 1 _ (hp.1.below hal) HB.out (row8_C (blk_new wr _) rfl (by simp)) (by omega))
      have E1 := Aside0.mk (or128 m)
      have HP := Aside0.mk hp
      have HAL := Aside0.mk hal
      have HR : Aside0 (r = (q ++ [((m % 128 + 128 : Nat) : Int)]) ++ numN (m / 128)) := ⟨by rw [hr, numN_hi (by omega), List.append_assoc]; rfl⟩
      have HM := Aside0.mk hm
      have HLT := Aside0.mk hlt
      clear hm hr hql hp hrl hal H hlt
      go_wp2_with fail
      rw [E1.out]
      refine KEY.out.mono ?_
      rintro e w1 ⟨v2, rfl, h⟩
      have H2 : Aside0 (NInv w w1 base g v r (m / 128)) := ⟨_, v2, by have := HM.out; omega, HR.out, by rw [HR.out]; simp, HP.out.trans (PPut.after HB.out HP.out.1 HAL.out h)⟩
      clear h KEY HR HP HAL E1
      have E2 : Aside0 ((m : Int) / 128 = ((m / 128 : Nat) : Int)) := ⟨by omega⟩
      go_wp2_with fail
      go_roundw
      case rel => exact ⟨m / 128, by rw [← E2.out], H2⟩
      case measure =>
        have h1 := HLT.out
        simp [intOf]; omega
    · have h1 : decide ((128 : Int) ≤ (m : Int)) = false := decide_eq_false (by omega)
      have h1' : ¬ (128 : Int) ≤ (m : Int) := by omega
      have hal := below_alloc (Below.refl wr.heap.size wr) (.cells #[.int .u8 (m : Int)] 5)
      have KEY := Aside0.mk (add_any base g q [(m : Int)] v1 (some ⟨wr.heap.size, 0, none⟩) 1 1 _ (hp.1.below hal) HB.out (row8_C (blk_new wr _) rfl (by simp)) (by omega))
      rw [numN_lo (by omega)] at hr
      have E1 : Aside0 (IntKind.u8.wrap (m : Int) = (m : Int)) := ⟨by rw [IntKind.wrap_u8]; omega⟩
      have HP := Aside0.mk hp
      have HAL := Aside0.mk hal
      have HR := Aside0.mk hr
      have E1' := E1.out
      clear hm hr hql hp hrl hal H hlt
      go_wp2_with fail
      refine KEY.out.mono ?_
      rintro e w1 ⟨v2, rfl, h⟩
      rw [← HR.out] at h
      have H2 := Aside0.mk (HP.out.trans (PPut.after HB.out HP.out.1 HAL.out h))
      clear h KEY HR HP HAL
      go_wp2_with fail
      go_ret
      exact ⟨_, rfl, H2.out⟩

set_option maxHeartbeats 1000000 in
theorem pblob_any (base g : Nat) (p q : List Int) (v : Value) (A : Option Addr) (n c : Nat) (w : World) (hk : Pn w base g p v) (hb : base ≤ g) (hl : p.length + n ≤ 100000) (hq : ∀ w', KeepBut w w' g v.ownBlock → Below base w w' → (Kd.int .u8).C w' A n q) :
    Calls Try.prog 28 #[.pointer (some ⟨g, 0, none⟩), .slice A n c] w fun e w' => ∃ v', e = .returned (.pointer (some ⟨g, 0, none⟩)) ∧ PPut w w' base g v (p ++ (numN n ++ q)) v' := by
  have KEY := Aside0.mk (pnum_any base g p v n (by omega) w hk hb (by omega))
  have hn10 := numN_ten (x := n) (by omega)
  have KEY2 := Aside0.mk (fun w1 v1 (h : PPut w w1 base g v (p ++ numN n) v1) => add_any base g (p ++ numN n) q v1 A n c w1 h.1 hb (hq w1 h.2.1 h.2.2.2) (by rw [List.length_append]; omega))
  have E1 : IntKind.u64.wrap (n : Int) = n := by rw [IntKind.wrap_u64]; omega
  clear hk hb hl hq hn10
  go_enter Try.func28, Try.ntmps28
  go_wp2_with fail
  refine KEY.out.mono ?_
  rintro e w1 ⟨v1, rfl, h⟩
  have KEY3 := Aside0.mk (KEY2.out w1 v1 h)
  have H := Aside0.mk h
  clear h KEY KEY2
  go_wp2_with fail
  refine KEY3.out.mono ?_
  rintro e w2 ⟨v2, rfl, h⟩
  rw [List.append_assoc] at h
  have H2 := Aside0.mk (H.out.trans h)
  clear h KEY3
  go_wp2_with fail
  go_ret
  exact ⟨_, rfl, H2.out⟩
end Go.Proofs.Ythllblcbmpehlaa
