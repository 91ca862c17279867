/- What has come stays; the walk of OrderOld. -/
import Derived.Test.YtbfcllpjenohlaaDoorDc
namespace Go.Proofs.YtbfcllpjenohlaaDoor
open Go.RowKit Go.Proofs.YtbfcllpjenohlaaDoorW.PrintWords Go.Proofs.YtbfcllpjenohlaaDoorW.PrintLast Go.Proofs.YtbfcllpjenohlaaDoorW.PrintMore
set_option linter.unusedVariables false
set_option linter.unusedSimpArgs false

theorem note_lt {x s : Int} {b : Nat} (hb : b < 4294967296) : (noteN x b s).1.2 < 4294967296 := by
  unfold noteN
  split
  · exact hb
  · split
    · have h1 : (dist x s - 1).toNat < 32 := by
        rename_i h _; simp at h; omega
      have := Nat.pow_lt_pow_right (a := 2) (by omega) h1
      exact Nat.or_lt_two_pow (n := 32) hb this
    · exact Nat.lt_of_le_of_lt (Nat.div_le_self _ _) hb
theorem note_next {x s : Int} {b : Nat} (hx : 0 ≤ x ∧ x < 65536) : 0 ≤ (noteN x b s).1.1 ∧ (noteN x b s).1.1 < 65536 := by
  unfold noteN
  split
  · exact hx
  · split
    · exact hx
    · exact ⟨plus_lo _ _, plus_hi _ _⟩
theorem has_neg {x s : Int} {b : Nat} (h : dist x s < 0) : hasN x b s = true := by unfold hasN; simp [h]
/-- What was noted is had. -/
theorem note_has {x s : Int} {b : Nat} (hb : b < 4294967296) (h : (noteN x b s).2 = true) : hasN (noteN x b s).1.1 (noteN x b s).1.2 s = true := by
  have h1 := dist_lo x s
  have h2 := dist_hi x s
  unfold noteN at h ⊢
  by_cases c1 : dist x s > 32 ∨ hasN x b s = true
  · rw [if_pos c1] at h; cases h
  · rw [if_neg c1]
    have c0 : ¬ dist x s < 0 := fun c => c1 (.inr (has_neg c))
    by_cases c2 : dist x s > 0
    · rw [if_pos c2]
      unfold hasN
      have c3 : dist x s ≤ 32 := by omega
      simp [c2, c3, Nat.testBit_or, Nat.testBit_two_pow_self]
    · rw [if_neg c2]
      have hr := ctz_le (4294967295 - b) (by omega)
      refine has_neg ?_
      have : dist x s = 0 := by omega
      unfold dist at this
      show dist (plus x _) s < 0
      unfold dist plus
      omega
/-- What lies ahead of Next stays so. -/
theorem note_old {x s t : Int} {b : Nat} (hb : b < 4294967296) (h1 : -32700 ≤ dist x t) (h2 : dist x t < 0) : hasN (noteN x b s).1.1 (noteN x b s).1.2 t = true := by
  unfold noteN
  split
  · exact has_neg h2
  · split
    · exact has_neg h2
    · have hr := ctz_le (4294967295 - b) (by omega)
      refine has_neg ?_
      show dist (plus x _) t < 0
      unfold dist at h1 h2
      unfold dist plus
      omega
theorem note_again {x s : Int} {b : Nat} (h : hasN x b s = true) : (noteN x b s).2 = false := by unfold noteN; rw [if_pos (.inr h)]
theorem note_far {x s : Int} {b : Nat} (h : 32 < dist x s) : (noteN x b s).2 = false := by unfold noteN; rw [if_pos (.inl h)]
theorem has_far {x s : Int} {b : Nat} (h : 32 < dist x s) : hasN x b s = false := by unfold hasN; simp; constructor <;> intros <;> omega
theorem has_self {x : Int} {b : Nat} : hasN x b x = false := by unfold hasN; simp [dist_self]

/-- The block of a pair. -/
def Two (w : World) (g : Nat) (p : Int × Nat) : Prop := w.heap[g]? = some (.cells #[.int .u16 p.1, .int .u32 p.2] 35 (0, 0))
theorem Two.new (w : World) (p : Int × Nat) : Two (w.alloc (.cells #[.int .u16 p.1, .int .u32 p.2] 35)) w.heap.size p := blk_new _ _
theorem Two.alloc {w : World} {g : Nat} {p : Int × Nat} (h : Two w g p) (o : Obj) : Two (w.alloc o) g p := blk_alloc h o
theorem Two.drewN {w : World} {g : Nat} {p : Int × Nat} (h : Two w g p) (n : Nat) : Two (w.drewN n) g p := h
theorem Two.below {w w' : World} {g : Nat} {p : Int × Nat} (h : Two w g p) (hb : Below w.heap.size w w') : Two w' g p := blk_below h hb
theorem Two.c0 {w : World} {g : Nat} {p : Int × Nat} (h : Two w g p) : w.cell? ⟨g, 0, none⟩ = some (.int .u16 p.1) := (blk_cell h 0).trans rfl
theorem Two.c1 {w : World} {g : Nat} {p : Int × Nat} (h : Two w g p) : w.cell? ⟨g, 1, none⟩ = some (.int .u32 p.2) := (blk_cell h 1).trans rfl
theorem Two.f0 {w : World} {g : Nat} {p : Int × Nat} (h : Two w g p) : w.frozen? ⟨g, 0, none⟩ = false := blk_frozen h 0
theorem Two.f1 {w : World} {g : Nat} {p : Int × Nat} (h : Two w g p) : w.frozen? ⟨g, 1, none⟩ = false := blk_frozen h 1

set_option maxRecDepth 100000 in
set_option maxHeartbeats 4000000 in
theorem old_walk (next b s back : Int) (w : World) (hT : TabAt w) (hx : 0 ≤ next ∧ next < 65536) (hb' : 0 ≤ b ∧ b < 4294967296) (hs : 0 ≤ s ∧ s < 65536) (hk : 0 ≤ back ∧ back < 65536) :
    Calls Tryd.prog 5 #[.int .u16 next, .int .u32 b, .int .u16 s, .int .u16 back] w fun e w' => e = .returned (.bool true) ∧ Below w.heap.size w w' := by
  obtain ⟨b, rfl⟩ := Int.eq_ofNat_of_zero_le hb'.1
  have hb : b < 4294967296 := by omega
  have hbb := Aside0.mk hb
  clear hb'
  obtain ⟨k, hkk⟩ : ∃ k, back.tmod 32000 = k := ⟨_, rfl⟩
  have hk0 : 0 ≤ k ∧ k < 32000 := by rw [Int.tmod_eq_emod_of_nonneg hk.1] at hkk; omega
  obtain ⟨old, hold⟩ : ∃ o, plus next (-1 - k) = o := ⟨_, rfl⟩
  obtain ⟨far, hfar⟩ : ∃ o, plus next (33 + k) = o := ⟨_, rfl⟩
  have d1 : dist next old = -1 - k := by rw [← hold]; exact dist_plus (by omega) (by omega)
  have d2 : dist next far = 33 + k := by rw [← hfar]; exact dist_plus (by omega) (by omega)
  have F1 : hasN next b old = true := has_neg (by omega)
  have F2 : hasN next b next = false := has_self
  have F3 := note_old (x := next) (s := s) (t := old) hb (by omega) (by omega)
  have F4 : (noteN next b far).2 = false := note_far (by omega)
  have F5 : hasN next b far = false := has_far (by omega)
  have F6 := note_has (s := s) (x := next) hb
  have hb2 := note_lt (x := next) (s := s) hb
  obtain ⟨⟨⟨x2, b2⟩, ok⟩, hN⟩ : ∃ R, noteN next b s = R := ⟨_, rfl⟩
  rw [hN] at F3 F6 hb2
  have F7 : ok = true → (noteN x2 b2 s).2 = false := fun h => note_again (F6 h)
  obtain ⟨⟨p3, ok3⟩, hN3⟩ : ∃ R, noteN next b far = R := ⟨_, rfl⟩
  obtain ⟨⟨p4, ok4⟩, hN4⟩ : ∃ R, noteN x2 b2 s = R := ⟨_, rfl⟩
  rw [hN3] at F4
  rw [hN4] at F7
  obtain ⟨x3, b3⟩ := p3
  obtain ⟨x4, b4⟩ := p4
  simp only at F3 F4 F6 F7 hb2
  subst F4
  have W1 : wrap64 k = k := by unfold wrap64; omega
  have W2 : wrap64 (-1 - k) = -1 - k := by unfold wrap64; omega
  have W3 : wrap64 (33 + k) = 33 + k := by unfold wrap64; omega
  have W4 : IntKind.u16.wrap k = k := by rw [IntKind.wrap_u16]; omega
  have HN := Aside0.mk hN
  have HN3 := Aside0.mk hN3
  have HN4 := Aside0.mk hN4
  have HB2 := Aside0.mk hb2
  have HF1 := Aside0.mk F1
  have HF2 := Aside0.mk F2
  have HF3 := Aside0.mk F3
  have HF5 := Aside0.mk F5
  have HF6 := Aside0.mk F6
  have HF7 := Aside0.mk F7
  clear hN hN3 hN4 hb2 hb hx hs hk hk0 d1 d2 F1 F2 F3 F5 F6 F7
  have HT := Aside0.mk hT
  clear hT
  go_enter Tryd.func5, Tryd.ntmps5
  go_wp2_with fail
  refine (awake_any _ HT.out).mono ?_
  rintro e w1 ⟨rfl, hb1⟩
  have HB := Aside0.mk hb1
  have T1 := Aside0.mk (HT.out.below hb1)
  clear hb1 HT
  have A1 := Aside0.mk (Two.new w1 (next, b))
  have T2 := Aside0.mk (T1.out.below (below_alloc (Below.refl _ _) (.cells #[.int .u16 next, .int .u32 b] 35)))
  have B2 := Aside0.mk (below_alloc HB.out (.cells #[.int .u16 next, .int .u32 b] 35))
  clear T1 HB
  go_wp2_with fail
  refine (note_any next s b hbb.out _ T2.out).mono ?_
  rintro e w2 ⟨rfl, hb2⟩
  rw [HN.out]
  have A2 := Aside0.mk (A1.out.below hb2)
  have T3 := Aside0.mk (T2.out.below hb2)
  have B3 := Aside0.mk (below_step B2.out hb2)
  clear T2 B2 A1 hb2
  generalize w1.heap.size = ga at *
  unfold acks
  have A3 := Aside0.mk (A2.out.alloc (.cells #[.int .u16 x2, .int .u32 b2] 35))
  have Q3 := Aside0.mk (Two.new w2 (x2, b2))
  have T4 := Aside0.mk (T3.out.below (below_alloc (Below.refl _ _) (.cells #[.int .u16 x2, .int .u32 b2] 35)))
  have B4 := Aside0.mk (below_alloc B3.out (.cells #[.int .u16 x2, .int .u32 b2] 35))
  clear T3 B3 A2
  go_wp2_with fail
  refine (add_any _ _ _).mono ?_
  rintro e w3 ⟨rfl, nd3, rfl⟩
  have A4 := Aside0.mk (A3.out.drewN nd3)
  have Q4 := Aside0.mk (Q3.out.drewN nd3)
  have T5 : Aside0 (TabAt ((w2.alloc (.cells #[.int .u16 x2, .int .u32 b2] 35)).drewN nd3)) := ⟨T4.out.below (pw_below_drewN (Below.refl _ _) _)⟩
  have B5 := Aside0.mk (pw_below_drewN B4.out nd3)
  generalize w2.heap.size = gq at *
  generalize (w2.alloc (.cells #[.int .u16 x2, .int .u32 b2] 35)).drewN nd3 = v3 at *
  clear A3 Q3 T4 B4
  have a0 := A4.out.c0
  have a1 := A4.out.c1
  go_wp2_with fail
  refine (has_any next old b hbb.out _).mono ?_
  rintro e v4 ⟨rfl, hb4⟩
  rw [HF1.out]
  have A5 := Aside0.mk (A4.out.below hb4)
  have Q5 := Aside0.mk (Q4.out.below hb4)
  have T6 := Aside0.mk (T5.out.below hb4)
  have B6 := Aside0.mk (below_step B5.out hb4)
  clear a0 a1 hb4 A4 Q4 T5 B5
  have a0 := A5.out.c0
  have a1 := A5.out.c1
  go_wp2_with fail
  refine (has_any next next b hbb.out _).mono ?_
  rintro e v5 ⟨rfl, hb5⟩
  rw [HF2.out]
  have A6 := Aside0.mk (A5.out.below hb5)
  have Q6 := Aside0.mk (Q5.out.below hb5)
  have T7 := Aside0.mk (T6.out.below hb5)
  have B7 := Aside0.mk (below_step B6.out hb5)
  clear a0 a1 hb5 A5 Q5 T6 B6
  have q0 := Q6.out.c0
  have q1 := Q6.out.c1
  go_wp2_with fail
  refine (note_any x2 s b2 HB2.out _ T7.out).mono ?_
  rintro e v6 ⟨rfl, hb6⟩
  rw [HN4.out]
  unfold acks
  have A7 := Aside0.mk ((A6.out.below hb6).alloc (.cells #[.int .u16 x4, .int .u32 b4] 35))
  have Q7 := Aside0.mk ((Q6.out.below hb6).alloc (.cells #[.int .u16 x4, .int .u32 b4] 35))
  have T8 := Aside0.mk ((T7.out.below hb6).below (below_alloc (Below.refl _ _) (.cells #[.int .u16 x4, .int .u32 b4] 35)))
  have B8 := Aside0.mk (below_alloc (below_step B7.out hb6) (.cells #[.int .u16 x4, .int .u32 b4] 35))
  clear q0 q1 hb6 A6 Q6 T7 B7
  have hok : (ok = true ∧ ok4 = false) ∨ (ok = false) := by cases ok <;> simp_all [HF7.out]
  rcases hok with ⟨rfl, rfl⟩ | rfl
  all_goals
    go_wp2_with fail
    refine (add_any _ _ _).mono ?_
    rintro e w3 ⟨rfl, nd5, rfl⟩
    have A8 := Aside0.mk (A7.out.drewN nd5)
    have Q8 := Aside0.mk (Q7.out.drewN nd5)
    have T9 : Aside0 (TabAt ((v6.alloc (.cells #[.int .u16 x4, .int .u32 b4] 35)).drewN nd5)) := ⟨T8.out.below (pw_below_drewN (Below.refl _ _) _)⟩
    have B9 := Aside0.mk (pw_below_drewN B8.out nd5)
    generalize v6.heap.size = gr at *
    generalize (v6.alloc (.cells #[.int .u16 x4, .int .u32 b4] 35)).drewN nd5 = v7 at *
    clear A7 Q7 T8 B8
    have a0 := A8.out.c0
    have a1 := A8.out.c1
    go_wp2_with fail
    refine (note_any next far b hbb.out _ T9.out).mono ?_
    rintro e v8 ⟨rfl, hb8⟩
    rw [HN3.out]
    unfold acks
    have A9 := Aside0.mk ((A8.out.below hb8).alloc (.cells #[.int .u16 x3, .int .u32 b3] 35))
    have Q9 := Aside0.mk ((Q8.out.below hb8).alloc (.cells #[.int .u16 x3, .int .u32 b3] 35))
    have B10 := Aside0.mk (below_alloc (below_step B9.out hb8) (.cells #[.int .u16 x3, .int .u32 b3] 35))
    clear a0 a1 hb8 A8 Q8 T9 B9
    have a0 := A9.out.c0
    have a1 := A9.out.c1
    go_wp2_with fail
    refine (has_any next far b hbb.out _).mono ?_
    rintro e v9 ⟨rfl, hb9⟩
    rw [HF5.out]
    have Q10 := Aside0.mk (Q9.out.below hb9)
    have B11 := Aside0.mk (below_step B10.out hb9)
    clear a0 a1 hb9 A9 Q9 B10
    have q0 := Q10.out.c0
    have q1 := Q10.out.c1
    go_wp2_with fail
  · refine (has_any x2 s b2 HB2.out _).mono ?_
    rintro e v10 ⟨rfl, hb10⟩
    rw [HF6.out (by trivial)]
    have Q11 := Aside0.mk (Q10.out.below hb10)
    have B12 := Aside0.mk (below_step B11.out hb10)
    clear q0 q1 hb10
    have q0 := Q11.out.c0
    have q1 := Q11.out.c1
    go_wp2_with fail
    refine (has_any x2 old b2 HB2.out _).mono ?_
    rintro e v11 ⟨rfl, hb11⟩
    rw [HF3.out]
    go_wp2_with fail
    go_ret
    exact ⟨rfl, below_step B12.out hb11⟩
  · refine (has_any x2 old b2 HB2.out _).mono ?_
    rintro e v11 ⟨rfl, hb11⟩
    rw [HF3.out]
    go_wp2_with fail
    go_ret
    exact ⟨rfl, below_step B11.out hb11⟩
end Go.Proofs.YtbfcllpjenohlaaDoor
