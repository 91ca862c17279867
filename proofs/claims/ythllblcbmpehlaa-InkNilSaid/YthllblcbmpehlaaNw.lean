/- A nil pen, a nil eye. -/
import Derived.Test.YthllblcbmpehlaaNv
namespace Go.Proofs.Ythllblcbmpehlaa
open Go.RowKit Go.Proofs.YthllblcbmpehlaaW.PrintWords Go.Proofs.YthllblcbmpehlaaW.PrintLast Go.Proofs.YthllblcbmpehlaaW.PrintMore
set_option linter.unusedVariables false
set_option linter.unusedSimpArgs false

set_option maxHeartbeats 1000000 in
theorem add_nil (v : Value) (w : World) :
    Calls Try.prog 34 #[.pointer none, v] w fun e w' => e = .returned (.pointer none) ∧ w' = w := by
  go_enter Try.func34, Try.ntmps34
  go_wp2_with fail
  go_ret
  exact ⟨rfl, rfl⟩
set_option maxHeartbeats 1000000 in
theorem pbyte_nil (x : Int) (w : World) :
    Calls Try.prog 18 #[.pointer none, .int .u8 x] w fun e w' => e = .returned (.pointer none) ∧ Below w.heap.size w w' := by
  go_enter Try.func18, Try.ntmps18
  go_wp2_with fail
  refine (add_nil _ _).mono ?_
  rintro e w1 ⟨rfl, rfl⟩
  go_wp2_with fail
  go_ret
  exact ⟨rfl, below_alloc (Below.refl _ _) _⟩
set_option maxHeartbeats 1000000 in
theorem phalf_nil (x : Int) (hx : 0 ≤ x ∧ x ≤ 65535) (w : World) :
    Calls Try.prog 19 #[.pointer none, .int .u16 x] w fun e w' => e = .returned (.pointer none) ∧ Below w.heap.size w w' := by
  obtain ⟨hx1, hx2⟩ := hx
  go_enter Try.func19, Try.ntmps19
  go_wp2_with fail
  refine (add_nil _ _).mono ?_
  rintro e w1 ⟨rfl, rfl⟩
  go_wp2_with fail
  go_ret
  exact ⟨rfl, below_alloc (Below.refl _ _) _⟩
set_option maxHeartbeats 1000000 in
theorem pword_nil (x : Nat) (hx : x < 4294967296) (w : World) :
    Calls Try.prog 20 #[.pointer none, .int .u32 x] w fun e w' => e = .returned (.pointer none) ∧ Below w.heap.size w w' := by
  have E1 : Aside0 (IntKind.u16.wrap (x : Int) = ((x % 65536 : Nat) : Int)) := ⟨by rw [IntKind.wrap_u16]; omega⟩
  have E2 : Aside0 ((x : Int) / 65536 = ((x / 65536 : Nat) : Int)) := ⟨by omega⟩
  go_enter Try.func20, Try.ntmps20
  go_wp2_with fail
  refine (phalf_nil _ (by rw [IntKind.wrap_u16]; omega) _).mono ?_
  rintro e w1 ⟨rfl, h⟩
  have H := Aside0.mk h
  clear h
  go_wp2_with fail
  refine (phalf_nil _ (by omega) _).mono ?_
  rintro e w2 ⟨rfl, h⟩
  have H2 := Aside0.mk (below_step H.out h)
  clear h
  go_wp2_with fail
  go_ret
  exact ⟨rfl, H2.out⟩
set_option maxRecDepth 100000 in
set_option maxHeartbeats 1000000 in
theorem pnum_nil (x : Nat) (hx : x < 18446744073709551616) (w : World) :
    Calls Try.prog 17 #[.pointer none, .int .u64 x] w fun e w' => e = .returned (.pointer none) ∧ Below w.heap.size w w' := by
  have H0 : Aside0 (x < 18446744073709551616 ∧ Below w.heap.size w w) := ⟨⟨hx, Below.refl _ _⟩⟩
  clear hx
  go_enter Try.func17, Try.ntmps17
  go_wp2_with fail
  go_loopw [1] (fun v1 wr => ∃ m : Nat, v1 = .int .u64 m ∧ Aside0 (m < 18446744073709551616 ∧ Below w.heap.size w wr)) (fun v1 _ => (intOf v1).toNat)
  case atStart => exact ⟨x, rfl, H0⟩
  case round =>
    clear H0
    obtain ⟨m, rfl, H⟩ := hrel
    by_cases hlt : 128 ≤ m
    · have h1 : decide ((128 : Int) ≤ (m : Int)) = true := decide_eq_true (by omega)
      have h1' : (128 : Int) ≤ (m : Int) := by omega
      have HLT := Aside0.mk hlt
      clear hlt
      go_wp2_with fail
      refine (add_nil _ _).mono ?_
      rintro e w1 ⟨rfl, rfl⟩
      have E2 : Aside0 ((m : Int) / 128 = ((m / 128 : Nat) : Int)) := ⟨by omega⟩
      go_wp2_with fail
      go_roundw
      case rel => exact ⟨m / 128, by rw [← E2.out], ⟨by have := H.out.1; omega, below_step H.out.2 (below_alloc (Below.refl _ _) _)⟩⟩
      case measure =>
        have h1 := HLT.out
        simp [intOf]; omega
    · have h1 : decide ((128 : Int) ≤ (m : Int)) = false := decide_eq_false (by omega)
      have h1' : ¬ (128 : Int) ≤ (m : Int) := by omega
      clear hlt
      go_wp2_with fail
      refine (add_nil _ _).mono ?_
      rintro e w1 ⟨rfl, rfl⟩
      go_wp2_with fail
      go_ret
      exact ⟨rfl, below_step H.out.2 (below_alloc (Below.refl _ _) _)⟩
set_option maxHeartbeats 1000000 in
theorem pblob_nil (A : Option Addr) (n c : Nat) (hn : n < 9223372036854775808) (w : World) :
    Calls Try.prog 28 #[.pointer none, .slice A n c] w fun e w' => e = .returned (.pointer none) ∧ Below w.heap.size w w' := by
  have E1 : IntKind.u64.wrap (n : Int) = n := by rw [IntKind.wrap_u64]; omega
  go_enter Try.func28, Try.ntmps28
  go_wp2_with fail
  refine (pnum_nil n (by omega) _).mono ?_
  rintro e w1 ⟨rfl, h⟩
  have H := Aside0.mk h
  clear h
  go_wp2_with fail
  refine (add_nil _ _).mono ?_
  rintro e w2 ⟨rfl, rfl⟩
  go_wp2_with fail
  go_ret
  exact ⟨rfl, H.out⟩

/-! ### A nil eye -/
set_option maxHeartbeats 1000000 in
theorem wrong_nil (w : World) : Calls Try.prog 35 #[.pointer none] w fun e w' => e = .returned (.bool true) ∧ w' = w := by
  go_enter Try.func35, Try.ntmps35
  go_wp2_with fail
  go_ret
  exact ⟨rfl, rfl⟩
set_option maxHeartbeats 1000000 in
theorem efail_nil (w : World) : Calls Try.prog 36 #[.pointer none] w fun e w' => e = .returned (.tuple #[]) ∧ w' = w := by
  go_enter Try.func36, Try.ntmps36
  go_wp2_with fail
  go_end0
  exact ⟨rfl, rfl⟩
set_option maxHeartbeats 1000000 in
theorem take_nil (k : Int) (w : World) : Calls Try.prog 41 #[.pointer none, .int .i64 k] w fun e w' => e = .returned (.slice none 0 0) ∧ w' = w := by
  go_enter Try.func41, Try.ntmps41
  go_wp2_with fail
  refine (wrong_nil w).mono ?_
  rintro e w1 ⟨rfl, rfl⟩
  go_wp2_with fail
  refine (efail_nil _).mono ?_
  rintro e w2 ⟨rfl, rfl⟩
  go_wp2_with fail
  go_ret
  exact ⟨rfl, rfl⟩
set_option maxHeartbeats 1000000 in
theorem ebyte_nil (w : World) : Calls Try.prog 29 #[.pointer none] w fun e w' => e = .returned (.int .u8 0) ∧ w' = w := by
  have hz := fun w => nz_slice none 0 0 w
  go_enter Try.func29, Try.ntmps29
  go_wp2_with fail
  refine (take_nil _ w).mono ?_
  rintro e w1 ⟨rfl, rfl⟩
  go_wp2_with fail
  go_ret
  exact ⟨rfl, rfl⟩
set_option maxHeartbeats 1000000 in
theorem ehalf_nil (w : World) : Calls Try.prog 30 #[.pointer none] w fun e w' => e = .returned (.int .u16 0) ∧ w' = w := by
  have hz := fun w => nz_slice none 0 0 w
  go_enter Try.func30, Try.ntmps30
  go_wp2_with fail
  refine (take_nil _ w).mono ?_
  rintro e w1 ⟨rfl, rfl⟩
  go_wp2_with fail
  go_ret
  exact ⟨rfl, rfl⟩
set_option maxHeartbeats 1000000 in
theorem eword_nil (w : World) : Calls Try.prog 31 #[.pointer none] w fun e w' => e = .returned (.int .u32 0) ∧ w' = w := by
  have hz := fun w => nz_slice none 0 0 w
  go_enter Try.func31, Try.ntmps31
  go_wp2_with fail
  refine (take_nil _ w).mono ?_
  rintro e w1 ⟨rfl, rfl⟩
  go_wp2_with fail
  go_ret
  exact ⟨rfl, rfl⟩
set_option maxRecDepth 100000 in
set_option maxHeartbeats 1000000 in
theorem enum_nil (most : Int) (w : World) : Calls Try.prog 21 #[.pointer none, .int .u64 most] w fun e w' => e = .returned (.int .u64 0) ∧ w' = w := by
  have e0 : bits .andNot .u8 0 128 = 0 := by decide
  go_enter Try.func21, Try.ntmps21
  go_wp2_with fail
  go_loopw [5, 6] (fun v5 v6 wr => v5 = .int .u64 0 ∧ v6 = .int .i64 0 ∧ wr = w) (fun _ _ _ => 0)
  case atStart => exact ⟨rfl, rfl, rfl⟩
  case round =>
    obtain ⟨rfl, rfl, rfl⟩ := hrel
    go_wp2_with fail
    refine (ebyte_nil _).mono ?_
    rintro e w1 ⟨rfl, rfl⟩
    go_wp2_with fail
    refine (wrong_nil _).mono ?_
    rintro e w2 ⟨rfl, rfl⟩
    go_wp2_with fail
    refine (efail_nil _).mono ?_
    rintro e w3 ⟨rfl, rfl⟩
    go_wp2_with fail
    go_ret
    exact ⟨rfl, rfl⟩
set_option maxHeartbeats 1000000 in
theorem eblob_nil (w : World) : Calls Try.prog 32 #[.pointer none, .int .i64 9] w fun e w' => e = .returned (.slice none 0 0) ∧ w' = w := by
  go_enter Try.func32, Try.ntmps32
  go_wp2_with fail
  refine (enum_nil _ _).mono ?_
  rintro e w1 ⟨rfl, rfl⟩
  go_wp2_with fail
  refine (wrong_nil _).mono ?_
  rintro e w2 ⟨rfl, rfl⟩
  go_wp2_with fail
  refine (efail_nil _).mono ?_
  rintro e w3 ⟨rfl, rfl⟩
  go_wp2_with fail
  go_ret
  exact ⟨rfl, rfl⟩
set_option maxHeartbeats 1000000 in
theorem left_nil (w : World) : Calls Try.prog 16 #[.pointer none] w fun e w' => e = .returned (.int .i64 0) ∧ w' = w := by
  go_enter Try.func16, Try.ntmps16
  go_wp2_with fail
  go_ret
  exact ⟨rfl, rfl⟩
set_option maxHeartbeats 1000000 in
theorem done_nil (w : World) : Calls Try.prog 24 #[.pointer none] w fun e w' => e = .returned (.int .i64 2) ∧ w' = w := by
  go_enter Try.func24, Try.ntmps24
  go_wp2_with fail
  refine (wrong_nil _).mono ?_
  rintro e w2 ⟨rfl, rfl⟩
  go_wp2_with fail
  go_ret
  exact ⟨rfl, rfl⟩
end Go.Proofs.Ythllblcbmpehlaa
