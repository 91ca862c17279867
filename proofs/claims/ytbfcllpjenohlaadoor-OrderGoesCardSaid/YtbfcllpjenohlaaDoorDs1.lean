/- The walks of OrderTurns and OrderGoes. -/
import Derived.Test.YtbfcllpjenohlaaDoorDc
namespace Go.Proofs.YtbfcllpjenohlaaDoor
open Go.RowKit Go.Proofs.YtbfcllpjenohlaaDoorW.PrintWords Go.Proofs.YtbfcllpjenohlaaDoorW.PrintLast Go.Proofs.YtbfcllpjenohlaaDoorW.PrintMore
set_option linter.unusedVariables false
set_option linter.unusedSimpArgs false

theorem quarter {n : Int} (hn : -32768 ≤ n) (hn2 : n < 32768) : ∃ x, wrap64 (IntKind.i16.wrap (n.tdiv 4)) = x ∧ -8192 ≤ x ∧ x ≤ 8192 := by
  refine ⟨_, rfl, ?_⟩
  have h : -8192 ≤ n.tdiv 4 ∧ n.tdiv 4 ≤ 8192 := by
    rcases Int.le_total 0 n with h | h
    · rw [Int.tdiv_eq_ediv_of_nonneg h]; omega
    · obtain ⟨k, rfl⟩ : ∃ k : Int, n = -k := ⟨-n, by omega⟩
      rw [Int.neg_tdiv, Int.tdiv_eq_ediv_of_nonneg (by omega)]; omega
  rw [i16_w]; unfold wrap64; omega

set_option maxRecDepth 100000 in
set_option maxHeartbeats 4000000 in
theorem turns_walk (a n m : Int) (w : World) (hT : TabAt w) (ha' : 0 ≤ a ∧ a < 65536) (hn' : -32768 ≤ n ∧ n < 32768) (hm' : -32768 ≤ m ∧ m < 32768) :
    Calls Tryd.prog 6 #[.int .u16 a, .int .i16 n, .int .i16 m] w fun e w' => e = .returned (.bool true) ∧ Below w.heap.size w w' := by
  obtain ⟨ha, ha2⟩ := ha'; obtain ⟨hn, hn2⟩ := hn'; obtain ⟨hm, hm2⟩ := hm'
  obtain ⟨x, hx, hx1, hx2⟩ := quarter hn hn2
  obtain ⟨y, hy, hy1, hy2⟩ := quarter hm hm2
  obtain ⟨b, hb⟩ : ∃ b, plus a x = b := ⟨_, rfl⟩
  obtain ⟨c, hc⟩ : ∃ c, plus b y = c := ⟨_, rfl⟩
  have k1 : plus b (-x) = a := by rw [← hb]; unfold plus; omega
  have k2 : dist a b = x := by rw [← hb]; exact dist_plus (by omega) (by omega)
  have k3 : dist b c = y := by rw [← hc]; exact dist_plus (by omega) (by omega)
  have k4 : dist a c = x + y := by rw [← hc, ← hb]; unfold dist plus; omega
  have k5 : dist b a = -x := by rw [← hb]; unfold dist plus; omega
  have k6 : wrap64 (-x) = -x := by unfold wrap64; omega
  have k7 : wrap64 (x + y) = x + y := by unfold wrap64; omega
  have k8 : (decide (0 < -x)) = decide (x < 0) := by by_cases h : x < 0 <;> simp [h] <;> omega
  clear ha ha2 hn hn2 hm hm2 hx1 hx2 hy1 hy2
  go_enter Tryd.func6, Tryd.ntmps6
  go_wp2_with fail
  refine (awake_any _ hT).mono ?_
  rintro e w1 ⟨rfl, hb1⟩
  have HB := Aside0.mk hb1
  clear hb1 hT
  go_wp2_with (first | (go_at_call 10; refine (add_any _ _ _).mono ?_; rintro e w' ⟨rfl, nd, rfl⟩) | (go_at_call 11; refine (to_any _ _ _).mono ?_; rintro e w' ⟨rfl, nd, rfl⟩) | (go_at_call 12; refine (less_any _ _ _).mono ?_; rintro e w' ⟨rfl, nd, rfl⟩))
  go_ret
  exact ⟨rfl, by repeat (first | exact HB.out | apply pw_below_drewN)⟩

set_option maxRecDepth 100000 in
set_option maxHeartbeats 4000000 in
theorem goes_walk (a b n : Int) (w : World) (hT : TabAt w) (ha' : 0 ≤ a ∧ a < 65536) (hb' : 0 ≤ b ∧ b < 65536) (hn' : -32768 ≤ n ∧ n < 32768) :
    Calls Tryd.prog 3 #[.int .u16 a, .int .u16 b, .int .i16 n] w fun e w' => e = .returned (.bool true) ∧ Below w.heap.size w w' := by
  obtain ⟨ha, ha2⟩ := ha'; obtain ⟨hb, hb2⟩ := hb'; obtain ⟨hn, hn2⟩ := hn'
  have HR := fun w => Lib.hid (refto_any a b ha ha2 hb hb2 w)
  obtain ⟨c, hc⟩ : ∃ c, plus a n = c := ⟨_, rfl⟩
  have k1 : dist a c = n := by rw [← hc]; exact dist_plus (by omega) (by omega)
  have k2 : plus a (dist a b) = b := plus_dist hb hb2
  have k3 : dist a a = 0 := dist_self a
  have k4 : plus a 65536 = a := by unfold plus; omega
  have k6 : wrap64 n = n := by unfold wrap64; omega
  obtain ⟨d, hd⟩ : ∃ d, dist a b = d := ⟨_, rfl⟩
  obtain ⟨d', hd'⟩ : ∃ d', dist b a = d' := ⟨_, rfl⟩
  have k7 : d = 0 ∨ d = -32768 ∨ (0 < d ∧ ¬ 0 < d') ∨ (¬ 0 < d ∧ 0 < d') := by rw [← hd, ← hd']; unfold dist; omega
  rw [hd] at k2
  have HR' : ∀ w, Hid (Calls Tryd.prog 9 #[.int .u16 a, .int .u16 b] w fun e w' => e = .returned (.int .i64 d) ∧ Drawn0 w w') := by rw [← hd]; exact HR
  clear ha ha2 hb hb2 hn hn2 HR
  rcases k7 with rfl | rfl | ⟨h1, h2⟩ | ⟨h1, h2⟩
  all_goals
    (try have z1 := decide_eq_true h1)
    (try have z1 := decide_eq_false h1)
    (try have z2 := decide_eq_true h2)
    (try have z2 := decide_eq_false h2)
    (try have z3 : (d == 0) = false := by simp; omega)
    (try have z4 : (d == -32768) = false := by simp; omega)
    go_enter Tryd.func3, Tryd.ntmps3
    go_wp2_with fail
    refine (awake_any _ hT).mono ?_
    rintro e w1 ⟨rfl, hb1⟩
    have HB := Aside0.mk hb1
    clear hb1
    go_wp2_with (first | (go_at_call 9; refine (HR' _).out.mono ?_; rintro e w' ⟨rfl, nd, rfl⟩) | (go_at_call 10; refine (add_any _ _ _).mono ?_; rintro e w' ⟨rfl, nd, rfl⟩) | (go_at_call 11; refine (to_any _ _ _).mono ?_; rintro e w' ⟨rfl, nd, rfl⟩) | (go_at_call 12; refine (less_any _ _ _).mono ?_; rintro e w' ⟨rfl, nd, rfl⟩))
    all_goals
      go_ret
      exact ⟨rfl, by repeat (first | exact HB.out | apply pw_below_drewN)⟩
end Go.Proofs.YtbfcllpjenohlaaDoor
