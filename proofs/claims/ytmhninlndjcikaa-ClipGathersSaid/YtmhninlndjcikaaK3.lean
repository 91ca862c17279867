/- The walk of ClipRows. -/
import Derived.Test.YtmhninlndjcikaaK2
import Derived.Test.YtmhninlndjcikaaK1
namespace Go.Proofs.Ytmhninlndjcikaa
open Go.RowKit Go.Proofs.YtmhninlndjcikaaW.PrintWords Go.Proofs.YtmhninlndjcikaaW.PrintLast Go.Proofs.YtmhninlndjcikaaW.PrintMore
set_option linter.unusedVariables false
set_option linter.unusedSimpArgs false

theorem keep_more {w w1 : World} {g : Nat} {row : Option Nat} (h : KeepBut w w1 g none) : KeepBut w w1 g row := ⟨h.1, fun i hi hg _ => h.2 i hi hg (by simp)⟩
theorem Put'.trans {w w1 w2 : World} {base g : Nat} {v v1 v2 : Value} {k1 k2 : Bs} (h : Put' w w1 base g v k1 v1) (h' : Put' w1 w2 base g v1 k2 v2) : Put' w w2 base g v k2 v2 := by
  refine ⟨h'.1, ?_, ?_, h.2.2.2.trans h'.2.2.2⟩
  · rcases h.2.2.1 with e | e | ⟨b, e, hb⟩
    · have := h'.2.1
      rw [e] at this
      exact KeepBut.trans h.2.1 (row1 := v.ownBlock) (keep_more this) (.inl rfl)
    · exact KeepBut.trans h.2.1 h'.2.1 (.inl e)
    · exact KeepBut.trans h.2.1 h'.2.1 (.inr ⟨b, e, hb⟩)
  · rcases h'.2.2.1 with e | e | ⟨b, e, hb⟩
    · exact .inl e
    · rcases h.2.2.1 with e' | e' | ⟨b, e', hb⟩
      · exact .inl (e.trans e')
      · exact .inr (.inl (e.trans e'))
      · exact .inr (.inr ⟨b, e.trans e', hb⟩)
    · exact .inr (.inr ⟨b, e, Nat.le_trans h.2.1.1 hb⟩)
theorem Bk.below {w w' : World} {base g : Nat} {k : Bs} {v : Value} (h : Bk w base g k v) (hb : Below w.heap.size w w') : Bk w' base g k v := ⟨blk_below h.1 hb, Kd.R_below h.2 hb⟩
theorem put_below {w w' : World} {base g : Nat} {k : Bs} {v : Value} (h : Bk w base g k v) (hbg : base ≤ g) (hb : Below w.heap.size w w') : Put' w w' base g v k v :=
  ⟨h.below hb, KeepBut.of_below hb g _, .inr (.inl rfl), hb.mono (Nat.le_trans hbg (Nat.le_of_lt (blk_lt h.1)))⟩
theorem Put'.keepR {w w' : World} {base g : Nat} {k : Bs} {v v' : Value} (h : Put' w w' base g v k v') {α : Type} {d : Kd α} {e b0 : Nat} {ok : Nat → Prop} {u : Value} {xs : List α} (hr : d.R e w b0 ok u xs) (hok : ∀ k, ok k → k ≠ g ∧ v.ownBlock ≠ some k) : d.R e w' b0 ok u xs :=
  Kd.R_step hr (fun k hk hlt => h.2.1.2 k hlt (hok k hk).1 (fun e => (hok k hk).2 e.symm))
theorem Put'.keep8 {w w' : World} {base g gr : Nat} {k : Bs} {v v' : Value} {q : List Int} (h : Put' w w' base g v k v') (hr : Row8 w gr q) (hne : gr ≠ g) (hv : v.ownBlock ≠ some gr) : Row8 w' gr q := (put_row h hr hne hv).1

/-- The basket behind j of a message's m pieces. -/
def rowK (p : List Int) (m j : Nat) : Bs := if j = 0 ∨ j = m then B0 else ⟨p.take (64 * j), true, false⟩
theorem rowK_len {p : List Int} {m j : Nat} (hp : p.length ≤ 1024) : (rowK p m j).p.length ≤ 1024 := by
  unfold rowK B0
  split
  · simp
  · simp only [List.length_take]; omega
theorem rowK_put {p : List Int} {m j : Nat} (hm : countN p.length = m) (hp : p.length ≤ 1024) (hj : j < m) : putN (rowK p m j) (pieceN p m j) = (rowK p m (j + 1), (if j + 1 = m then p else [], decide (j + 1 = m), 0)) := by
  obtain ⟨x, hx, f1, f2, f3, f3b, f4, f5, f6, f7⟩ := piece_facts hm hp hj
  rw [hx]
  obtain ⟨fb, lb, q⟩ := x
  simp only at f1 f3b f4 f5 f6 f7
  have hsk : (rowK p m j).sk = false := by unfold rowK B0; split <;> rfl
  have hop : (rowK p m j).op = !fb := by
    rw [f1]; unfold rowK B0
    by_cases h : j = 0
    · rw [if_pos (.inl h)]; simp [h]
    · rw [if_neg (by omega)]; simp [h]
  have hpp : (rowK p m j).p = p.take (64 * j) := by
    unfold rowK B0
    by_cases h : j = 0
    · rw [if_pos (.inl h)]; simp [h]
    · rw [if_neg (by omega)]
  have hlen : (rowK p m j).p.length + q.length ≤ 1024 := by
    rw [hpp, ← List.length_append, ← f6, List.length_take]; omega
  unfold putN
  simp only
  rw [if_neg (by rw [hsk]; simp), if_neg (by
    rw [hop]
    intro h
    rcases h with h | h | ⟨h, h'⟩
    · cases fb <;> simp at h
    · omega
    · have := f4 h; omega), if_neg (by omega), hpp, ← f6]
  by_cases h : j + 1 = m
  · have hl : lb = true := by rw [f3b]; exact decide_eq_true h
    rw [if_pos hl, f7 hl, if_pos h, decide_eq_true h]
    unfold rowK
    rw [if_pos (.inr h)]; rfl
  · have hl : ¬ lb = true := by rw [f3b]; simpa using h
    rw [if_neg hl, if_neg h, decide_eq_false h]
    unfold rowK
    rw [if_neg (by omega)]
end Go.Proofs.Ytmhninlndjcikaa
