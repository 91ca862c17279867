/- ink.Eye: take, Byte, Done. -/
import Derived.Test.YthllblcbmpehlaaNd
namespace Go.Proofs.Ythllblcbmpehlaa
open Go.RowKit Go.Proofs.YthllblcbmpehlaaW.PrintWords Go.Proofs.YthllblcbmpehlaaW.PrintLast Go.Proofs.YthllblcbmpehlaaW.PrintMore
set_option linter.unusedVariables false
set_option linter.unusedSimpArgs false

set_option maxRecDepth 100000 in
set_option maxHeartbeats 2000000 in
theorem take_no (g B : Nat) (l : List Int) (bad : Bool) (k : Nat) (w : World) (hk : Ey w g B l bad) (hb : bad = true ∨ l.length < k) :
    Calls Try.prog 41 #[.pointer (some ⟨g, 0, none⟩), .int .i64 k] w fun e w' => e = .returned (.slice none 0 0) ∧ EyTo w w' g B [] true := by
  have KEY := Aside0.mk (wrong_any g B l bad w hk)
  have KEY2 := Aside0.mk (efail_any g B l bad w hk)
  obtain ⟨A, n, c, h1, h2, h3, h4, h5⟩ := hk
  obtain rfl := h2.1
  have c0 := blk_cell h1 0
  have hc : bad = true ∨ (bad = false ∧ decide ((l.length : Int) < (k : Int)) = true ∧ decide (l.length < k) = true) := by
    cases bad
    · have hlk : l.length < k := by rcases hb with h | h; cases h; exact h
      exact .inr ⟨rfl, decide_eq_true (by omega), decide_eq_true hlk⟩
    · exact .inl rfl
  generalize l.length = m at *
  clear h1 h2 h3 h4 h5 hb
  rcases hc with rfl | ⟨rfl, hc, hc2⟩
  all_goals
    go_enter Try.func41, Try.ntmps41
    go_wp2_with fail
    refine KEY.out.mono ?_
    rintro e w1 ⟨rfl, rfl⟩
    clear KEY
    go_wp2_with fail
    refine KEY2.out.mono ?_
    rintro e w2 ⟨rfl, h⟩
    have H := Aside0.mk h
    clear h KEY2
    go_wp2_with fail
    go_ret
    exact ⟨rfl, H.out⟩
theorem ey_drop {w w' : World} {g B : Nat} {A' : Option Addr} {n c : Nat} {l : List Int} (h : w'.heap[g]? = some (.cells #[.slice A' n c, .bool false] 67 (0, 0))) (hC : (Kd.int .u8).C w' A' n l) (hc : n ≤ c) (hA : ∀ ad, A' = some ad → ad.block ≠ g ∧ ad.block < B) (hg : g < B) : Ey w' g B l false := ⟨A', n, c, h, hC, hc, hA, hg⟩

set_option maxRecDepth 100000 in
set_option maxHeartbeats 2000000 in
theorem take_ok (g B : Nat) (l : List Int) (k : Nat) (w : World) (hk : Ey w g B l false) (hl : k ≤ l.length) :
    Calls Try.prog 41 #[.pointer (some ⟨g, 0, none⟩), .int .i64 k] w fun e w' => ∃ A', e = .returned (.slice A' k k) ∧ (Kd.int .u8).C w' A' k (l.take k) ∧ EyTo w w' g B (l.drop k) false := by
  have KEY := Aside0.mk (wrong_any g B l false w hk)
  obtain ⟨A, n, c, h1, h2, h3, h4, h5⟩ := hk
  obtain rfl := h2.1
  have c0 := blk_cell h1 0
  have f0 := blk_frozen h1 0
  obtain ⟨A', a1, a2, a3⟩ := eye_lo (P := Try.prog) .u8 .i64 25 5 1 Try.underlying25 np_info A l.length c k hl h3
  obtain ⟨b1, b2⟩ := eye_hi (P := Try.prog) .u8 .i64 .i64 25 5 1 Try.underlying25 np_info A l.length c k hl h3
  have hkeep := (KeepBut.refl w g none).set_ 0 (.slice A' (l.length - k) (c - k))
  have H1 : Aside0 ((Kd.int .u8).C (w.setCell ⟨g, 0, none⟩ (.slice A' (l.length - k) (c - k))) A k (l.take k)) := ⟨b2 _ _ (Kd.C_keep (0 : Int) h2 hkeep (fun ad e _ => (h4 ad e).1))⟩
  have H2 : Aside0 (EyTo w (w.setCell ⟨g, 0, none⟩ (.slice A' (l.length - k) (c - k))) g B (l.drop k) false) := by
    refine ⟨⟨ey_drop (w := w) (blk_set h1 0 _) (a2 _ _ (Kd.C_keep (0 : Int) h2 hkeep (fun ad e _ => (h4 ad e).1))) (by omega) (fun ad e => ?_) h5, hkeep, (Below.refl g w).setCell (Nat.le_refl _) _⟩⟩
    obtain ⟨ad0, e0, hbk⟩ := a3 ad e
    rw [hbk]
    exact h4 ad0 e0
  have d1 : decide ((l.length : Int) < (k : Int)) = false := decide_eq_false (by omega)
  have d2 : decide (l.length < k) = false := decide_eq_false (by omega)
  have b1' := b1 w
  have a1' := a1 w
  generalize l.length = m at *
  generalize l.take k = lt at *
  generalize l.drop k = ld at *
  clear h1 h2 h3 h4 h5 hl a2 a3 b2 hkeep a1 b1
  go_enter Try.func41, Try.ntmps41
  go_wp2_with fail
  refine KEY.out.mono ?_
  rintro e w1 ⟨rfl, rfl⟩
  clear KEY
  go_wp2_with fail
  go_ret
  exact ⟨_, rfl, H1.out, H2.out⟩

theorem add0 (ad : Addr) : ad.add 0 = ad := by cases ad; simp [Addr.add]
/-- What Byte tells. -/
def eByte (l : List Int) (bad : Bool) : Int × List Int × Bool := if bad = true ∨ l.length < 1 then (0, [], true) else (l.headD 0, l.drop 1, false)
theorem nz_slice (A : Option Addr) (n c : Nat) (w : World) : (binOp .neq 25 (.slice A n c) (.slice none 0 0)).run Try.prog w = .ok (.bool (!A.isNone)) w := run_neq_slice_nil_any w _ _ _ _ _ _ _ Try.underlying25

set_option maxHeartbeats 1000000 in
theorem ebyte_any (g B : Nat) (l : List Int) (bad : Bool) (w : World) (hk : Ey w g B l bad) :
    Calls Try.prog 29 #[.pointer (some ⟨g, 0, none⟩)] w fun e w' => e = .returned (.int .u8 (eByte l bad).1) ∧ EyTo w w' g B (eByte l bad).2.1 (eByte l bad).2.2 := by
  unfold eByte
  by_cases hc : bad = true ∨ l.length < 1
  · rw [if_pos hc]
    have KEY := Aside0.mk (take_no g B l bad 1 w hk hc)
    have hz := fun w => nz_slice none 0 0 w
    clear hk hc
    go_enter Try.func29, Try.ntmps29
    go_wp2_with fail
    refine KEY.out.mono ?_
    rintro e w1 ⟨rfl, h⟩
    have H := Aside0.mk h
    clear h KEY
    go_wp2_with fail
    go_ret
    exact ⟨rfl, H.out⟩
  · rw [if_neg hc]
    have hb : bad = false := by cases bad; rfl; exact absurd (.inl rfl) hc
    subst hb
    have hl : 1 ≤ l.length := by rcases Nat.lt_or_ge l.length 1 with h | h; exact absurd (.inr h) hc; exact h
    have KEY := Aside0.mk (take_ok g B l 1 w hk hl)
    have hz := fun a w => nz_slice (some a) 1 1 w
    have HL : Aside0 (l.take 1 = [l.headD 0]) := ⟨by cases l with | nil => simp at hl | cons x t => rfl⟩
    clear hk hc hl
    generalize l.headD 0 = x at *
    generalize l.drop 1 = ld at *
    go_enter Try.func29, Try.ntmps29
    go_wp2_with fail
    refine KEY.out.mono ?_
    rintro e w1 ⟨A', rfl, hC, h⟩
    rw [HL.out] at hC
    obtain ⟨ad, rfl, hx⟩ := int_at hC 0 (by simp)
    rw [List.getElem_cons_zero, add0] at hx
    have H := Aside0.mk h
    clear h KEY hC
    go_wp2_with fail
    go_ret
    exact ⟨rfl, H.out⟩

set_option maxHeartbeats 1000000 in
theorem done_any (g B : Nat) (l : List Int) (bad : Bool) (w : World) (hk : Ey w g B l bad) :
    Calls Try.prog 24 #[.pointer (some ⟨g, 0, none⟩)] w fun e w' => e = .returned (.int .i64 (if bad = true ∨ 0 < l.length then 2 else 0)) ∧ w' = w := by
  have KEY := Aside0.mk (wrong_any g B l bad w hk)
  obtain ⟨A, n, c, h1, h2, h3, h4, h5⟩ := hk
  obtain rfl := h2.1
  have c0 := blk_cell h1 0
  generalize l.length = m at *
  clear h1 h2 h3 h4 h5
  have hc : (bad = true ∧ (if bad = true ∨ 0 < m then (2 : Int) else 0) = 2) ∨ (bad = false ∧ decide ((0 : Int) < (m : Int)) = true ∧ decide (0 < m) = true ∧ (if bad = true ∨ 0 < m then (2 : Int) else 0) = 2) ∨ (bad = false ∧ decide ((0 : Int) < (m : Int)) = false ∧ decide (0 < m) = false ∧ (if bad = true ∨ 0 < m then (2 : Int) else 0) = 0) := by
    cases bad
    · rcases Nat.eq_zero_or_pos m with h | h
      · subst h; exact .inr (.inr ⟨rfl, by decide, by decide, by simp⟩)
      · exact .inr (.inl ⟨rfl, decide_eq_true (by omega), decide_eq_true h, by simp [h]⟩)
    · exact .inl ⟨rfl, by simp⟩
  rcases hc with ⟨rfl, hv⟩ | ⟨rfl, d1, d2, hv⟩ | ⟨rfl, d1, d2, hv⟩
  all_goals
    rw [hv]
    clear hv
    go_enter Try.func24, Try.ntmps24
    go_wp2_with fail
    refine KEY.out.mono ?_
    rintro e w1 ⟨rfl, rfl⟩
    clear KEY
    go_wp2_with fail
    go_ret
    exact ⟨rfl, rfl⟩
end Go.Proofs.Ythllblcbmpehlaa
