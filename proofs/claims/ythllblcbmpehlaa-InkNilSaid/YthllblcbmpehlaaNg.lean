/- law01: awake, few, lay. -/
import Derived.Test.YthllblcbmpehlaaNf
namespace Go.Proofs.Ythllblcbmpehlaa
open Go.RowKit Go.Proofs.YthllblcbmpehlaaW.PrintWords Go.Proofs.YthllblcbmpehlaaW.PrintLast Go.Proofs.YthllblcbmpehlaaW.PrintMore
set_option linter.unusedVariables false
set_option linter.unusedSimpArgs false

/-! ### few -/
def Fd (x : S30) : Prop := (0 ≤ x.f0 ∧ x.f0 < 256) ∧ (0 ≤ x.f1 ∧ x.f1 < 18446744073709551616) ∧ Bytes x.f2 ∧ (0 ≤ x.f3 ∧ x.f3 < 18446744073709551616)
def fewOne (x : S30) : S30 := ⟨x.f0, x.f1, x.f2.take 40, if Int.tmod x.f0 5 = 4 then Int.tmod x.f3 1000 else x.f3⟩
def fewN (l : List S30) : List S30 := (l.take 12).map fewOne
theorem fewN_length (l : List S30) : (fewN l).length ≤ 12 := by simp [fewN]; omega
theorem fewN_mem {l : List S30} (h : ∀ x ∈ l, Fd x) : ∀ x ∈ fewN l, Fd x ∧ x.f2.length ≤ 40 := by
  intro x hx
  obtain ⟨y, hy, rfl⟩ := List.mem_map.1 hx
  obtain ⟨h0, h1, h2, h3⟩ := h y (List.mem_of_mem_take hy)
  refine ⟨⟨h0, h1, h2.take 40, ?_⟩, by simp [fewOne]; omega⟩
  show 0 ≤ (if Int.tmod y.f0 5 = 4 then Int.tmod y.f3 1000 else y.f3) ∧ (if Int.tmod y.f0 5 = 4 then Int.tmod y.f3 1000 else y.f3) < 18446744073709551616
  split
  · rw [Int.tmod_eq_emod_of_nonneg h3.1]; omega
  · exact h3
theorem rdT_getElem {xs : List S30} {j : Nat} (h : j < xs.length) : rd_T30 xs (j : Int) = xs[j] := by
  unfold rd_T30; rw [List.getD_eq_getElem?_getD, Int.toNat_natCast, List.getElem?_eq_getElem h]; rfl
theorem cut_fk (l : List Int) (k : Nat) (hk : l.length < k) (hn : l.length ≤ 9223372036854775807) : hoodwinkref01_Cut.f k l 40 = some (l.take 40) := by
  have := cut_l0 l 40 (by omega) hn l.length k 0 (by omega) hk
  simpa [hoodwinkref01_Cut.f] using this
theorem few_l0 (l : List S30) (hn : l.length ≤ 9223372036854775807) (K0 : Nat) (hK : ∀ x ∈ l, x.f2.length < K0 ∧ x.f2.length ≤ 9223372036854775807) : ∀ (d k i : Nat), i + d = l.length → K0 + d < k →
    hoodwinklaw01_few.l0 k (fewN (l.take i)) l (l.length : Int) (i : Int) = some (fewN l)
  | 0, k, i, hi, hk => by
    obtain ⟨k, rfl⟩ : ∃ q, k = q + 1 := ⟨k - 1, by omega⟩
    simp only [hoodwinklaw01_few.l0]
    rw [if_neg (by omega), List.take_of_length_le (by omega)]
  | d + 1, k, i, hi, hk => by
    obtain ⟨k, rfl⟩ : ∃ q, k = q + 1 := ⟨k - 1, by omega⟩
    have hil : i < l.length := by omega
    have ih := few_l0 l hn K0 hK d k (i + 1) (by omega) (by omega)
    have hx := hK _ (List.getElem_mem hil)
    have hlen := fewN_length (l.take i)
    simp only [hoodwinklaw01_few.l0]
    rw [if_pos (by omega), if_pos (by omega), if_pos (by omega), rdT_getElem hil, next64 (by omega)]
    by_cases h : i < 12
    · have he : fewN (l.take (i + 1)) = fewN (l.take i) ++ [fewOne l[i]] := by
        unfold fewN
        rw [List.take_of_length_le (l := l.take (i + 1)) (by simp; omega), List.take_of_length_le (l := l.take i) (by simp; omega), take_snoc hil, List.map_append]; rfl
      rw [if_pos (by omega), cut_fk _ k (by omega) hx.2, Option.bind_some]
      rw [he] at ih
      unfold fewOne at ih
      split
      · rename_i h4
        rw [if_pos (by omega)]
        rw [if_pos h4] at ih
        exact ih
      · rename_i h4
        rw [if_pos (by omega)]
        rw [if_neg h4] at ih
        exact ih
    · have he : fewN (l.take (i + 1)) = fewN (l.take i) := by
        unfold fewN
        rw [List.take_take, List.take_take, show min 12 (i + 1) = min 12 i by omega]
      rw [if_neg (by omega), ← he, ih]
theorem bound_ex (l : List S30) : ∃ K0, ∀ x ∈ l, x.f2.length < K0 := by
  induction l with
  | nil => exact ⟨0, fun x h => by cases h⟩
  | cons y l ih =>
    obtain ⟨K, h⟩ := ih
    refine ⟨max K (y.f2.length + 1), fun x hx => ?_⟩
    rcases List.mem_cons.1 hx with rfl | hx
    · omega
    · have := h x hx; omega
theorem few_any (A : Option Addr) (n c : Nat) (l : List S30) (w : World) (hr : k30.C w A n l) (hc : n ≤ c) (hm : ∀ x ∈ l, x.f2.length ≤ 9223372036854775807) :
    Calls Try.prog 10 #[.slice A n c] w fun e w' => ∃ v, e = .returned v ∧ k30.R 30 w' w.heap.size (fun _ => True) v (fewN l) ∧ Below w.heap.size w w' := by
  have hn := hr.2.1
  obtain rfl := hr.1
  obtain ⟨K0, hK⟩ := bound_ex l
  have key := few_l0 l hn K0 (fun x hx => ⟨hK x hx, hm x hx⟩) l.length (K0 + l.length + 1) 0 (by omega) (by omega)
  refine (hoodwinklaw01_few.calls (K0 + l.length + 1) A c l (fewN l) w hr hc (by simpa [hoodwinklaw01_few.f, fewN] using key)).mono ?_
  rintro e w' ⟨v, h1, h2, h3⟩
  exact ⟨v, h1, Kd.S_R h2, h3⟩

/-! ### lay -/
def layN (x : S30) : List Int :=
  if Int.tmod x.f0 5 = 0 then lowN x.f1.toNat 1 else if Int.tmod x.f0 5 = 1 then lowN x.f1.toNat 2 else if Int.tmod x.f0 5 = 2 then lowN x.f1.toNat 4 else if Int.tmod x.f0 5 = 3 then numN x.f1.toNat else numN x.f2.length ++ x.f2
theorem layN_length (x : S30) (h : Fd x) (h2 : x.f2.length ≤ 18446744073709551615) : (layN x).length ≤ x.f2.length + 10 := by
  have h1 := h.2.1
  have h3 := numN_ten (x := x.f1.toNat) (by omega)
  have h4 := numN_ten (x := x.f2.length) (by omega)
  unfold layN
  repeat' split
  all_goals (try rw [lowN_length])
  all_goals (try rw [List.length_append])
  all_goals omega

set_option maxRecDepth 100000 in
set_option maxHeartbeats 2000000 in
theorem lay_any (base g : Nat) (p : List Int) (v : Value) (x : S30) (A : Option Addr) (c : Nat) (w : World) (hx : Fd x) (hk : Pn w base g p v) (hb : base ≤ g) (hl : p.length + x.f2.length ≤ 90000)
    (hq : ∀ w', KeepBut w w' g v.ownBlock → Below base w w' → (Kd.int .u8).C w' A x.f2.length x.f2) :
    Calls Try.prog 11 #[.pointer (some ⟨g, 0, none⟩), .agg #[.int .u8 x.f0, .int .u64 x.f1, .slice A x.f2.length c, .int .u64 x.f3]] w fun e w' => ∃ v', e = .returned (.pointer (some ⟨g, 0, none⟩)) ∧ PPut w w' base g v (p ++ layN x) v' := by
  obtain ⟨f0, f1, f2, f3⟩ := x
  obtain ⟨⟨h0, h0'⟩, ⟨h1, h1'⟩, h2, h3⟩ := hx
  simp only at h0 h0' h1 h1' h2 h3 hl hq
  obtain ⟨n, rfl⟩ := Int.eq_ofNat_of_zero_le h1
  unfold layN
  simp only [Int.toNat_natCast]
  obtain ⟨m, hm, hm5⟩ : ∃ m : Nat, Int.tmod f0 5 = (m : Int) ∧ m < 5 := ⟨(f0 % 5).toNat, by rw [Int.tmod_eq_emod_of_nonneg h0]; omega, by omega⟩
  have hal := below_alloc (Below.refl w.heap.size w) (.cells #[.int .u8 f0, .int .u64 (n : Int), .slice A f2.length c, .int .u64 f3] 30)
  have hkb : KeepBut w (w.alloc (.cells #[.int .u8 f0, .int .u64 (n : Int), .slice A f2.length c, .int .u64 f3] 30)) g v.ownBlock := KeepBut.of_below hal g _
  have hbb := hal.mono (Nat.le_trans hb (Nat.le_of_lt hk.lt))
  have HK := Aside0.mk hk
  have HB := Aside0.mk hb
  have HAL := Aside0.mk hal
  have hk1 := hk.below hal
  have E8 : Aside0 ((n : Int) % 256 = ((n % 256 : Nat) : Int)) := ⟨by omega⟩
  have E16 : Aside0 (IntKind.u16.wrap (n : Int) = ((n % 65536 : Nat) : Int)) := ⟨by rw [IntKind.wrap_u16]; omega⟩
  have E32 : Aside0 ((n : Int) % 4294967296 = ((n % 4294967296 : Nat) : Int)) := ⟨by omega⟩
  have L8 : Aside0 ([((n % 256 : Nat) : Int)] = lowN n 1) := ⟨rfl⟩
  have L16 : Aside0 (lowN (n % 65536) 2 = lowN n 2) := ⟨by simp only [lowN]; congr 1; omega; congr 1; omega⟩
  have L32 : Aside0 (lowN (n % 4294967296) 4 = lowN n 4) := ⟨by simp only [lowN]; congr 1; omega; congr 1; omega; congr 1; omega; congr 1; omega⟩
  have K0 := Aside0.mk (pbyte_any base g p v ((n % 256 : Nat) : Int) _ hk1 hb (by omega))
  have K1 := Aside0.mk (phalf_any base g p v (n % 65536) (by omega) _ hk1 hb (by omega))
  have K2 := Aside0.mk (pword_any base g p v (n % 4294967296) (by omega) _ hk1 hb (by omega))
  have K3 := Aside0.mk (pnum_any base g p v n (by omega) _ hk1 hb (by omega))
  have K4 := Aside0.mk (pblob_any base g p f2 v A f2.length c _ hk1 hb (by omega) (fun w' k b => hq w' ((keepn_below hal k)) (hbb.trans b)))
  generalize f2.length = fl at *
  clear hk hb hal hkb hbb hk1 hq h1 h1' h2 h3 hl h0 h0'
  have hcs : m = 0 ∨ m = 1 ∨ m = 2 ∨ m = 3 ∨ m = 4 := by omega
  clear hm5
  rcases hcs with rfl | rfl | rfl | rfl | rfl
  · have hm' : Int.tmod f0 5 = 0 := hm
    clear hm
    rw [if_pos hm']
    rw [L8.out] at K0
    go_enter Try.func11, Try.ntmps11
    go_wp2_with fail
    rw [E8.out]
    refine K0.out.mono ?_
    rintro e w1 ⟨v1, rfl, h⟩
    have H := Aside0.mk (PPut.after HB.out HK.out HAL.out h)
    clear h
    go_wp2_with fail
    go_ret
    exact ⟨_, rfl, H.out⟩
  · have hm' : Int.tmod f0 5 = 1 := hm
    clear hm
    rw [if_neg (by rw [hm']; decide), if_pos hm']
    rw [L16.out] at K1
    go_enter Try.func11, Try.ntmps11
    go_wp2_with fail
    rw [E16.out]
    refine K1.out.mono ?_
    rintro e w1 ⟨v1, rfl, h⟩
    have H := Aside0.mk (PPut.after HB.out HK.out HAL.out h)
    clear h
    go_wp2_with fail
    go_ret
    exact ⟨_, rfl, H.out⟩
  · have hm' : Int.tmod f0 5 = 2 := hm
    clear hm
    rw [if_neg (by rw [hm']; decide), if_neg (by rw [hm']; decide), if_pos hm']
    rw [L32.out] at K2
    go_enter Try.func11, Try.ntmps11
    go_wp2_with fail
    rw [E32.out]
    refine K2.out.mono ?_
    rintro e w1 ⟨v1, rfl, h⟩
    have H := Aside0.mk (PPut.after HB.out HK.out HAL.out h)
    clear h
    go_wp2_with fail
    go_ret
    exact ⟨_, rfl, H.out⟩
  · have hm' : Int.tmod f0 5 = 3 := hm
    clear hm
    rw [if_neg (by rw [hm']; decide), if_neg (by rw [hm']; decide), if_neg (by rw [hm']; decide), if_pos hm']
    go_enter Try.func11, Try.ntmps11
    go_wp2_with fail
    refine K3.out.mono ?_
    rintro e w1 ⟨v1, rfl, h⟩
    have H := Aside0.mk (PPut.after HB.out HK.out HAL.out h)
    clear h
    go_wp2_with fail
    go_ret
    exact ⟨_, rfl, H.out⟩
  · have hm' : Int.tmod f0 5 = 4 := hm
    clear hm
    rw [if_neg (by rw [hm']; decide), if_neg (by rw [hm']; decide), if_neg (by rw [hm']; decide), if_neg (by rw [hm']; decide)]
    go_enter Try.func11, Try.ntmps11
    go_wp2_with fail
    refine K4.out.mono ?_
    rintro e w1 ⟨v1, rfl, h⟩
    have H := Aside0.mk (PPut.after HB.out HK.out HAL.out h)
    clear h
    go_wp2_with fail
    go_ret
    exact ⟨_, rfl, H.out⟩
end Go.Proofs.Ythllblcbmpehlaa
