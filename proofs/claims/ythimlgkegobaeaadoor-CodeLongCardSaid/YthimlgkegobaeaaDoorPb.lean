/- ink.Pen: Byte, Half, Word. -/
import Derived.Test.YthimlgkegobaeaaDoorPa
import Derived.Test.YthimlgkegobaeaaDoorPl
namespace Go.Proofs.YthimlgkegobaeaaDoor
open Go.RowKit Go.Proofs.YthimlgkegobaeaaDoorW.PrintWords Go.Proofs.YthimlgkegobaeaaDoorW.PrintLast Go.Proofs.YthimlgkegobaeaaDoorW.PrintMore
set_option linter.unusedVariables false
set_option linter.unusedSimpArgs false

theorem row8_C {w : World} {g : Nat} {q : List Int} {cs : Array Value} (h : w.heap[g]? = some (.cells cs 5 (0, 0))) (hcs : cs.toList = q.map (Value.int .u8)) (hm : q.length ≤ 1000) : (Kd.int .u8).C w (some ⟨g, 0, none⟩) q.length q :=
  C_of_block h ⟨hcs, rfl, by omega⟩

theorem and255h (x : Nat) (hx : x < 65536) : bits .and .u16 (x : Int) 255 % 256 = ((x % 256 : Nat) : Int) := by
  rw [show (255 : Int) = ((255 : Nat) : Int) from rfl, u16_and_nat x 255 hx (by omega), show (255 : Nat) = 2 ^ 8 - 1 from rfl, Nat.and_two_pow_sub_one_eq_mod]
  omega
theorem lowN_four (x : Nat) (hx : x < 4294967296) : lowN (x % 65536) 2 ++ lowN (x / 65536) 2 = lowN x 4 := by
  simp only [lowN, List.cons_append, List.nil_append]
  congr 1
  · omega
  · congr 1
    · omega
    · congr 1
      · omega
      · congr 1
        omega

set_option maxHeartbeats 1000000 in
theorem phalf_any (base g : Nat) (p : List Int) (v : Value) (x : Nat) (hx : x < 65536) (w : World) (hk : Pn w base g p v) (hb : base ≤ g) (hl : p.length ≤ 10000000) :
    Calls Tryd.prog 68 #[.pointer (some ⟨g, 0, none⟩), .int .u16 x] w fun e w' => ∃ v', e = .returned (.pointer (some ⟨g, 0, none⟩)) ∧ PPut w w' base g v (p ++ lowN x 2) v' := by
  have hal := below_alloc (Below.refl w.heap.size w) (.cells #[.int .u8 ((x % 256 : Nat) : Int), .int .u8 ((x / 256 % 256 : Nat) : Int)] 5)
  have HK := Aside0.mk hk
  have HB := Aside0.mk hb
  have HAL := Aside0.mk hal
  have key := add_any base g p (lowN x 2) v (some ⟨w.heap.size, 0, none⟩) 2 2 _ (hk.below hal) hb (row8_C (q := lowN x 2) (blk_new w _) rfl (by simp [lowN])) (by omega)
  have KEY := Aside0.mk key
  have E1 : Aside0 (bits .and .u16 (x : Int) 255 % 256 = ((x % 256 : Nat) : Int)) := ⟨and255h x hx⟩
  have E2 : Aside0 ((x : Int) / 256 = ((x / 256 % 256 : Nat) : Int)) := ⟨by omega⟩
  clear hk hb hal key hl
  go_enter Tryd.func68, Tryd.ntmps68
  go_wp2_with fail
  rw [E1.out, E2.out]
  refine KEY.out.mono ?_
  rintro e w1 ⟨v', rfl, h⟩
  have H := Aside0.mk (PPut.after HB.out HK.out HAL.out h)
  clear h
  go_wp2_with fail
  go_ret
  exact ⟨_, rfl, H.out⟩

set_option maxHeartbeats 1000000 in
theorem pword_any (base g : Nat) (p : List Int) (v : Value) (x : Nat) (hx : x < 4294967296) (w : World) (hk : Pn w base g p v) (hb : base ≤ g) (hl : p.length ≤ 1000000) :
    Calls Tryd.prog 42 #[.pointer (some ⟨g, 0, none⟩), .int .u32 x] w fun e w' => ∃ v', e = .returned (.pointer (some ⟨g, 0, none⟩)) ∧ PPut w w' base g v (p ++ lowN x 4) v' := by
  have HK := Aside0.mk hk
  have HB := Aside0.mk hb
  have KEY := Aside0.mk (phalf_any base g p v (x % 65536) (by omega) w hk hb (by omega))
  have KEY2 := Aside0.mk (fun v1 w1 (h : Pn w1 base g (p ++ lowN (x % 65536) 2) v1) => phalf_any base g (p ++ lowN (x % 65536) 2) v1 (x / 65536) (by omega) w1 h hb (by rw [List.length_append, lowN_length]; omega))
  have E1 : Aside0 (IntKind.u16.wrap (x : Int) = ((x % 65536 : Nat) : Int)) := ⟨by rw [IntKind.wrap_u16]; omega⟩
  have E2 : Aside0 ((x : Int) / 65536 = ((x / 65536 : Nat) : Int)) := ⟨by omega⟩
  have E3 := Aside0.mk (lowN_four x hx)
  clear hk hb hl
  go_enter Tryd.func42, Tryd.ntmps42
  go_wp2_with fail
  rw [E1.out]
  refine KEY.out.mono ?_
  rintro e w1 ⟨v1, rfl, h⟩
  have KEY3 := Aside0.mk (KEY2.out v1 w1 h.1)
  have H := Aside0.mk h
  clear h
  go_wp2_with fail
  rw [E2.out]
  refine KEY3.out.mono ?_
  rintro e w2 ⟨v2, rfl, h⟩
  rw [List.append_assoc, E3.out] at h
  have H2 := Aside0.mk (H.out.trans h)
  clear h
  go_wp2_with fail
  go_ret
  exact ⟨_, rfl, H2.out⟩
end Go.Proofs.YthimlgkegobaeaaDoor
