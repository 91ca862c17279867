/- The reference's Turned in plain words; what was spoilt is shown. -/
import Derived.Test.YtadodibnjdeckaaR2
import Derived.Test.YtadodibnjdeckaaSo
import Derived.Test.YtadodibnjdeckaaSi
namespace Go.Proofs.Ytadodibnjdeckaa
open Go.RowKit Go.Proofs.YtadodibnjdeckaaW.PrintWords Go.Proofs.YtadodibnjdeckaaW.PrintLast Go.Proofs.YtadodibnjdeckaaW.PrintMore
set_option linter.unusedVariables false
set_option linter.unusedSimpArgs false

/-! ### Bytes as one number, and the register over it -/
theorem bits8_add : ∀ (j k x : Nat), bits8 (j + k) x = bits8 j (bits8 k x)
  | 0, k, x => by rw [Nat.zero_add]; rfl
  | j + 1, k, x => by rw [show j + 1 + k = (j + k) + 1 by omega]; show bitN _ = bitN _; rw [bits8_add j k x]
theorem mul_xor_add (b V : Nat) (hb : b < 256) : b + 256 * V = b ^^^ V * 2 ^ 8 := by
  have h := split256 (b + 256 * V)
  rw [show (b + 256 * V) / 256 = V by omega, show (b + 256 * V) % 256 = b by omega] at h
  rw [h, Nat.xor_comm]
theorem steps_val : ∀ {l : List Int} {s : Nat}, Bytes l → steps s l = bits8 (8 * l.length) (s ^^^ valN l)
  | [], s, _ => by show s = bits8 0 (s ^^^ 0); rw [Nat.xor_zero]; rfl
  | b :: l, s, hb => by
    have h0 := hb b List.mem_cons_self
    have ih := steps_val (l := l) (s := stepN s b.toNat) (fun x hx => hb x (List.mem_cons_of_mem _ hx))
    show steps (stepN s b.toNat) l = bits8 (8 * (l.length + 1)) (s ^^^ (b.toNat + 256 * valN l))
    rw [ih, show 8 * (l.length + 1) = 8 * l.length + 8 by omega, bits8_add, mul_xor_add _ _ (by omega), ← Nat.xor_assoc, bits8_xor 8 (s ^^^ b.toNat), bits8_shift]
    rfl
theorem valN_inj : ∀ {x y : List Int}, Bytes x → Bytes y → x.length = y.length → valN x = valN y → x = y
  | [], [], _, _, _, _ => rfl
  | a :: x, b :: y, hx, hy, hl, h => by
    have h1 := hx a List.mem_cons_self
    have h2 := hy b List.mem_cons_self
    have h3 : a.toNat + 256 * valN x = b.toNat + 256 * valN y := h
    have h4 := valN_inj (x := x) (y := y) (fun z hz => hx z (List.mem_cons_of_mem _ hz)) (fun z hz => hy z (List.mem_cons_of_mem _ hz)) (by simpa using hl) (by omega)
    rw [h4, show a = b by omega]
  | [], _ :: _, _, _, h, _ => by simp at h
  | _ :: _, [], _, _, h, _ => by simp at h
theorem valN_append : ∀ (x y : List Int), valN (x ++ y) = valN x + 256 ^ x.length * valN y
  | [], y => by simp [valN]
  | a :: x, y => by
    show a.toNat + 256 * valN (x ++ y) = a.toNat + 256 * valN x + 256 ^ (x.length + 1) * valN y
    rw [valN_append x y, Nat.pow_succ, Nat.mul_add, ← Nat.mul_assoc, Nat.mul_comm (256 ^ x.length) 256, Nat.add_assoc]
/-- It is sealed just if the register behind it is the one. -/
theorem sealed_reg {l : List Int} (hb : Bytes l) {n : Nat} (hl : l.length = n + 4) : l.drop n = tailL (sumN tab (l.take n)) ↔ steps 4294967295 l = bits8 32 4294967295 := by
  have e : l = l.take n ++ l.drop n := (List.take_append_drop n l).symm
  have hd : (l.drop n).length = 4 := by rw [List.length_drop]; omega
  have hs := steps_lt (hb.take n) (by omega : (4294967295 : Nat) < 4294967296)
  have hm := sumN_lt tab (l.take n)
  have hv := valN_lt (hb.drop n)
  rw [hd] at hv
  have h1 : steps 4294967295 l = bits8 32 (steps 4294967295 (l.take n) ^^^ valN (l.drop n)) := by
    have h2 : steps 4294967295 l = steps (steps 4294967295 (l.take n)) (l.drop n) := by rw [← steps_append, List.take_append_drop]
    rw [h2, steps_val (hb.drop n), hd]
  rw [h1, ← val_tail (hb.drop n) hd hm]
  have h3 : sumN tab (l.take n) = 4294967295 - steps 4294967295 (l.take n) := by unfold sumN; rw [tsum_steps (hb.take n)]
  rw [h3]
  generalize steps 4294967295 (l.take n) = s at *
  generalize valN (l.drop n) = v at *
  have hx : s ^^^ (4294967295 - s) = 4294967295 := by
    have h4 := u32_flip hs
    have h5 : bits .xor .u32 IntKind.u32.max (s : Int) = ((4294967295 ^^^ s : Nat) : Int) := u32_xor_nat 4294967295 s (by omega) hs
    rw [h5] at h4
    have h6 : 4294967295 ^^^ s = 4294967295 - s := by omega
    rw [← h6, Nat.xor_comm s, Nat.xor_assoc, Nat.xor_self, Nat.xor_zero]
  constructor
  · intro h; rw [h, hx]
  · intro h
    have h7 : bits8 32 ((s ^^^ v) ^^^ 4294967295) = 0 := by rw [bits8_xor, h, Nat.xor_self]
    have h8 := eq_of_xor (bits8_zero 32 (Nat.xor_lt_two_pow (n := 32) (Nat.xor_lt_two_pow (n := 32) (by omega) (by omega)) (by omega)) h7)
    have h9 : s ^^^ (s ^^^ v) = s ^^^ 4294967295 := by rw [h8]
    rw [← Nat.xor_assoc, Nat.xor_self, Nat.zero_xor] at h9
    have h10 : s ^^^ (s ^^^ (4294967295 - s)) = s ^^^ 4294967295 := by rw [hx]
    rw [← Nat.xor_assoc, Nat.xor_self, Nat.zero_xor] at h10
    rw [h9, h10]
/-- A burst of 32 bits is shown. -/
theorem burst_shown {q r : List Int} (hq : Bytes q) (hr : Bytes r) {n at_ M : Nat} (hlq : q.length = n + 4) (hlr : r.length = n + 4) (hat : at_ < 8 * (n + 4)) (hM : M < 4294967296) (hv : valN r = valN q ^^^ M * 2 ^ at_)
    (hs : q.drop n = tailL (sumN tab (q.take n))) : decide (r.drop n = tailL (sumN tab (r.take n))) = decide (q = r) := by
  refine decide_eq_decide.2 ⟨fun h => ?_, fun h => by rw [← h]; exact hs⟩
  have h1 := (sealed_reg hq hlq).1 hs
  have h2 := (sealed_reg hr hlr).1 h
  rw [steps_val hq, hlq] at h1
  rw [steps_val hr, hlr, hv, ← Nat.xor_assoc, bits8_xor, h1] at h2
  have h3 : bits8 (8 * (n + 4)) (M * 2 ^ at_) = 0 := by
    have : bits8 32 4294967295 ^^^ (bits8 32 4294967295 ^^^ bits8 (8 * (n + 4)) (M * 2 ^ at_)) = bits8 32 4294967295 ^^^ bits8 32 4294967295 := by rw [h2]
    rw [← Nat.xor_assoc, Nat.xor_self, Nat.zero_xor] at this
    exact this
  rw [show 8 * (n + 4) = (8 * (n + 4) - at_) + at_ by omega, bits8_add, bits8_shift] at h3
  have h4 := bits8_zero _ hM h3
  rw [h4, Nat.zero_mul, Nat.xor_zero] at hv
  exact valN_inj hq hr (by omega) hv.symm

/-! ### Turned -/
theorem valN_set : ∀ {l : List Int} {j : Nat} (hb : Bytes l) (hj : j < l.length) {y : Nat} (hy : y < 256), valN (l.set j (((l[j]).toNat ^^^ y : Nat) : Int)) = valN l ^^^ y * 2 ^ (8 * j)
  | a :: l, 0, hb, _, y, hy => by
    have h := hb a List.mem_cons_self
    show ((((a.toNat ^^^ y : Nat) : Int)).toNat + 256 * valN l) = (a.toNat + 256 * valN l) ^^^ y * 2 ^ 0
    have hx : a.toNat ^^^ y < 256 := Nat.xor_lt_two_pow (n := 8) (by omega) hy
    rw [Int.toNat_natCast, mul_xor_add _ _ hx, mul_xor_add _ _ (by omega), Nat.pow_zero, Nat.mul_one]
    rw [Nat.xor_assoc, Nat.xor_comm y, ← Nat.xor_assoc]
  | a :: l, j + 1, hb, hj, y, hy => by
    have h := hb a List.mem_cons_self
    have hjl : j < l.length := by simpa using hj
    have ih := valN_set (l := l) (j := j) (fun x hx => hb x (List.mem_cons_of_mem _ hx)) hjl hy
    show a.toNat + 256 * valN (l.set j (((l[j]).toNat ^^^ y : Nat) : Int)) = (a.toNat + 256 * valN l) ^^^ y * 2 ^ (8 * (j + 1))
    rw [ih, mul_xor_add _ _ (by omega), mul_xor_add _ _ (by omega)]
    have e : (valN l ^^^ y * 2 ^ (8 * j)) * 2 ^ 8 = valN l * 2 ^ 8 ^^^ y * 2 ^ (8 * (j + 1)) := by
      rw [← Nat.shiftLeft_eq, Nat.shiftLeft_xor_distrib, Nat.shiftLeft_eq, Nat.shiftLeft_eq, Nat.mul_assoc, ← Nat.pow_add]; congr 2
    rw [e, Nat.xor_assoc]
theorem xor_shift (a b k : Nat) : (a ^^^ b) * 2 ^ k = a * 2 ^ k ^^^ b * 2 ^ k := by
  rw [← Nat.shiftLeft_eq, Nat.shiftLeft_xor_distrib, Nat.shiftLeft_eq, Nat.shiftLeft_eq]
theorem bit_at {r : Nat} (h : r < 8) : ([1, 2, 4, 8, 16, 32, 64, 128] : List Int)[r]'h = ((2 ^ r : Nat) : Int) := by
  match r, h with
  | 0, _ => rfl
  | 1, _ => rfl
  | 2, _ => rfl
  | 3, _ => rfl
  | 4, _ => rfl
  | 5, _ => rfl
  | 6, _ => rfl
  | 7, _ => rfl
theorem tdiv8 (x : Nat) (h : x < 100000) : wrap64 (Int.tdiv (x : Int) 8) = ((x / 8 : Nat) : Int) := by
  rw [Int.tdiv_eq_ediv_of_nonneg (by omega), w64 (by omega)]; rfl
theorem tmod8 (x : Nat) : Int.tmod (x : Int) 8 = ((x % 8 : Nat) : Int) := by
  rw [Int.tmod_eq_emod_of_nonneg (by omega)]; rfl
theorem pow_lt8 (x : Nat) : 2 ^ (x % 8) < 256 := by
  have := Nat.pow_lt_pow_right (a := 2) (by omega) (Nat.mod_lt x (by omega : 0 < 8))
  omega
theorem mask_lt {M i : Nat} (h : M < 2 ^ i) : M < 2 ^ (i + 1) ∧ M ^^^ 2 ^ i < 2 ^ (i + 1) := by
  have hp : 2 ^ i < 2 ^ (i + 1) := Nat.pow_lt_pow_right (by omega) (by omega)
  exact ⟨Nat.lt_trans h hp, Nat.xor_lt_two_pow (Nat.lt_trans h hp) hp⟩
theorem pow_split (a i : Nat) : 2 ^ ((a + i) % 8) * 2 ^ (8 * ((a + i) / 8)) = 2 ^ i * 2 ^ a := by
  rw [← Nat.pow_add, ← Nat.pow_add]
  congr 1
  omega
theorem turned_l0 (q : List Int) (hb : Bytes q) (hl : q.length ≤ 1000) (a m : Nat) (ha : a < 10000) (d : Nat) : ∀ (k i : Nat) (out : List Int) (M : Nat), i + d = 32 → d < k → Bytes out → out.length = q.length → M < 2 ^ i → valN out = valN q ^^^ M * 2 ^ a →
    ∃ out' M', hoodwinkref02_Turned.l0 k (a : Int) (m : Int) out (i : Int) = some out' ∧ Bytes out' ∧ out'.length = q.length ∧ M' < 2 ^ 32 ∧ valN out' = valN q ^^^ M' * 2 ^ a := by
  induction d with
  | zero =>
    intro k i out M hi hk ho hlo hM hv
    obtain ⟨k, rfl⟩ : ∃ q, k = q + 1 := ⟨k - 1, by omega⟩
    have hi32 : i = 32 := by omega
    refine ⟨out, M, ?_, ho, hlo, by rw [← hi32]; exact hM, hv⟩
    simp only [hoodwinkref02_Turned.l0]
    rw [if_neg (by omega)]
  | succ d ih =>
    intro k i out M hi hk ho hlo hM hv
    obtain ⟨k, rfl⟩ : ∃ q, k = q + 1 := ⟨k - 1, by omega⟩
    have HV := Lib.hid hv
    have HM := Lib.hid hM
    clear hv hM
    have h1 : wrap64 ((a : Int) + (i : Int)) = ((a + i : Nat) : Int) := w64 (by omega)
    have h2 := tdiv8 (a + i) (by omega)
    have h3 := tmod8 (a + i)
    simp only [hoodwinkref02_Turned.l0]
    rw [if_pos (by omega), h1, h2, h3, next64 (by omega)]
    by_cases hj : (a + i) / 8 < out.length
    · rw [if_pos (by omega), if_pos (by omega)]
      by_cases hbit : Int.tmod (shr .u32 (m : Int) (i : Int)) 2 = 1
      · rw [if_pos hbit, if_pos (by omega)]
        simp only [Option.bind_some]
        rw [if_pos (by omega), if_pos (by show _ < ((8 : Nat) : Int); omega), Int.toNat_natCast, rd_getElem hj, rd_getElem (show (a + i) % 8 < ([1, 2, 4, 8, 16, 32, 64, 128] : List Int).length from Nat.mod_lt _ (by omega)), bit_at (Nat.mod_lt _ (by omega))]
        obtain ⟨b, hbe, hbl⟩ := ho.nat hj
        have hy := pow_lt8 (a + i)
        have hset := valN_set ho hj hy
        rw [hbe] at hset ⊢
        rw [Int.toNat_natCast] at hset
        have hx : bits .xor .u8 (b : Int) ((2 ^ ((a + i) % 8) : Nat) : Int) = ((b ^^^ 2 ^ ((a + i) % 8) : Nat) : Int) := u8_xor_nat b _ hbl hy
        rw [hx]
        have hxl : b ^^^ 2 ^ ((a + i) % 8) < 256 := Nat.xor_lt_two_pow (n := 8) (by omega) hy
        have hB : Bytes (out.set ((a + i) / 8) ((b ^^^ 2 ^ ((a + i) % 8) : Nat) : Int)) := by
          intro y hy'
          rcases List.mem_or_eq_of_mem_set hy' with h | h
          · exact ho y h
          · rw [h]; clear hset hbe hy'; omega
        have hval : valN (out.set ((a + i) / 8) ((b ^^^ 2 ^ ((a + i) % 8) : Nat) : Int)) = valN q ^^^ (M ^^^ 2 ^ i) * 2 ^ a := by
          rw [hset, HV.out, xor_shift, Nat.xor_assoc, pow_split]
        exact ih k (i + 1) _ (M ^^^ 2 ^ i) (by clear hset hval; omega) (by clear hset hval; omega) hB (by rw [List.length_set]; exact hlo) (mask_lt HM.out).2 hval
      · rw [if_neg hbit]
        exact ih k (i + 1) out M (by omega) (by omega) ho hlo (mask_lt HM.out).1 HV.out
    · rw [if_neg (by omega)]
      exact ih k (i + 1) out M (by omega) (by omega) ho hlo (mask_lt HM.out).1 HV.out
theorem turned_any (A : Option Addr) (n c : Nat) (q : List Int) (a m : Nat) (w : World) (hr : (Kd.int .u8).C w A n q) (hc : n ≤ c) (hb : Bytes q) (hl : n ≤ 1000) (ha : a < 10000) :
    Calls Try.prog 20 #[.slice A n c, .int .i64 a, .int .u32 m] w fun e w' => ∃ v out M, e = .returned v ∧ (Kd.int .u8).R 5 w' w.heap.size (fun _ => True) v out ∧ Below w.heap.size w w' ∧ Bytes out ∧ out.length = n ∧ M < 4294967296 ∧ valN out = valN q ^^^ M * 2 ^ a := by
  obtain rfl := hr.1
  obtain ⟨out, M, h1, h2, h3, h4, h5⟩ := turned_l0 q hb hl a m ha 32 40 0 q 0 (by omega) (by omega) hb rfl (by decide) (by rw [Nat.zero_mul, Nat.xor_zero])
  have e0 : ((0 : Nat) : Int) = 0 := rfl
  rw [e0] at h1
  have hj := join_f [q] (by simp; omega) (by simp)
  have hj2 : hoodwinkref01_Join.f 40 [q] = some q := by
    have := at_rounds (g := fun k => hoodwinkref01_Join.f k [q]) (fun k => hoodwinkref01_Join.mono _ k) (k := [q].length + 1) (k' := 40) (by simp) hj
    simpa using this
  refine (hoodwinkref02_Turned.calls 40 _ A c q a m out w (Kd.V_mk hc (Kd.C_F (Kd.heap_int .u8) hr)) (by unfold hoodwinkref02_Turned.f; rw [hj2, Option.bind_some]; exact h1)).mono ?_
  rintro e w' ⟨v, rfl, ho, hb'⟩
  exact ⟨v, out, M, rfl, Kd.R_mono ho (fun _ _ => trivial), hb', h2, h3, h4, h5⟩
end Go.Proofs.Ytadodibnjdeckaa
