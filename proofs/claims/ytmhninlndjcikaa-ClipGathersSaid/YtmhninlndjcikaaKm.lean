/- The document's basket: Put whole; what it does is what clip's does. -/
import Derived.Test.YtmhninlndjcikaaKl
namespace Go.Proofs.Ytmhninlndjcikaa
open Go.RowKit Go.Proofs.YtmhninlndjcikaaW.PrintWords Go.Proofs.YtmhninlndjcikaaW.PrintLast Go.Proofs.YtmhninlndjcikaaW.PrintMore
set_option linter.unusedVariables false
set_option linter.unusedSimpArgs false

/-- What the document's Put makes of its pieces. -/
def refL (L : List Pc) (sk : Bool) (x : Pc) : List Pc :=
  if sk = true ∧ x.f = false then L
  else if (x.f = true ∧ L ≠ []) ∨ (x.f = false ∧ L = []) ∨ 64 < x.d.length ∨ (x.l = false ∧ x.d.length < 64) then []
  else if 1024 < (allD L).length + x.d.length then []
  else if x.l = true then [] else L ++ [x]
/-- A basket, as the document's pieces tell it. -/
def kOf (L : List Pc) (sk : Bool) : Bs := ⟨allD L, !L.isEmpty, sk⟩
theorem allD_snoc (L : List Pc) (x : Pc) : allD (L ++ [x]) = allD L ++ x.d := by simp [allD]
/-- The two do the same. -/
theorem puts_alike (L : List Pc) (sk : Bool) (x : Pc) : (putN (kOf L sk) x).1 = kOf (refL L sk x) (putN (kOf L sk) x).1.sk := by
  unfold putN refL kOf
  simp only
  by_cases c1 : sk = true ∧ x.f = false
  · rw [if_pos c1, if_pos c1]
  · rw [if_neg c1, if_neg c1]
    have hc : (x.f = !L.isEmpty ∨ 64 < x.d.length ∨ (x.l = false ∧ x.d.length < 64)) ↔ ((x.f = true ∧ L ≠ []) ∨ (x.f = false ∧ L = []) ∨ 64 < x.d.length ∨ (x.l = false ∧ x.d.length < 64)) := by
      cases L <;> cases x.f <;> simp
    by_cases c2 : (x.f = true ∧ L ≠ []) ∨ (x.f = false ∧ L = []) ∨ 64 < x.d.length ∨ (x.l = false ∧ x.d.length < 64)
    · rw [if_pos (hc.2 c2), if_pos c2]; rfl
    · rw [if_neg (fun h => c2 (hc.1 h)), if_neg c2]
      by_cases c3 : 1024 < (allD L).length + x.d.length
      · rw [if_pos c3, if_pos c3]; rfl
      · rw [if_neg c3, if_neg c3]
        by_cases c4 : x.l = true
        · rw [if_pos c4, if_pos c4]; rfl
        · rw [if_neg c4, if_neg c4, allD_snoc]
          simp

theorem refput_any (base g : Nat) (OK : Nat → Prop) (L : List Pc) (sk : Bool) (v : Value) (x : Pc) (A : Option Addr) (c : Nat) (w : World) (hk : Rb w base g OK L sk v) (hb : base ≤ g) (hp : (allD L).length ≤ 1024)
    (hq : (Kd.int .u8).R 5 w base (fun b => b ≠ g ∧ OK b ∧ some b ≠ v.ownBlock) (.slice A x.d.length c) x.d) (hOK : ∀ b, w.heap.size ≤ b → OK b) (hLn : L.length ≤ 1000) :
    Calls Try.prog 17 #[.pointer (some ⟨g, 0, none⟩), .agg #[.bool x.f, .bool x.l, .slice A x.d.length c]] w fun e w' => ∃ vo v', e = .returned (.tuple #[vo, .bool (putN (kOf L sk) x).2.2.1, .int .i64 (putN (kOf L sk) x).2.2.2]) ∧ (Kd.int .u8).R 5 w' base (fun _ => True) vo (putN (kOf L sk) x).2.1 ∧ RPut w w' base g OK v (refL L sk x) (putN (kOf L sk) x).1.sk v' := by
  obtain ⟨f, lb, q⟩ := x
  simp only at hq
  have hn : q.length ≤ 9223372036854775807 := (R_C hq).2.2.2.1
  obtain ⟨n1, n2⟩ := refput_no base g OK L sk f lb v A q.length c w hk hb hp hn
  unfold putN refL kOf
  simp only
  by_cases c1 : sk = true ∧ f = false
  · rw [if_pos c1, if_pos c1]
    exact (n1 c1.1 c1.2).mono fun e w' h => ⟨_, v, h.1, Kd.R_nil _ _ _ _ _, hk.below h.2, KeepBut.of_below h.2 g _, h.2.mono (Nat.le_trans hb (Nat.le_of_lt (blk_lt hk.1)))⟩
  · rw [if_neg c1, if_neg c1]
    have hs : sk = true → f = true := fun h => by
      cases hf : f
      · exact absurd ⟨h, hf⟩ c1
      · rfl
    have hc : (f = !L.isEmpty ∨ 64 < q.length ∨ (lb = false ∧ q.length < 64)) ↔ ((f = true ∧ L ≠ []) ∨ (f = false ∧ L = []) ∨ 64 < q.length ∨ (lb = false ∧ q.length < 64)) := by
      cases L <;> cases f <;> simp
    by_cases c2 : (f = true ∧ L ≠ []) ∨ (f = false ∧ L = []) ∨ 64 < q.length ∨ (lb = false ∧ q.length < 64)
    · rw [if_pos (hc.2 c2), if_pos c2]
      exact (n2 hs c2).mono fun e w' h => ⟨_, _, h.1, Kd.R_nil _ _ _ _ _, h.2⟩
    · rw [if_neg (fun h => c2 (hc.1 h)), if_neg c2]
      have hf : (f = true ∧ L = []) ∨ (f = false ∧ L ≠ []) := by
        cases f
        · exact .inr ⟨rfl, fun e => c2 (.inr (.inl ⟨rfl, e⟩))⟩
        · refine .inl ⟨rfl, ?_⟩
          cases L with
          | nil => rfl
          | cons y l => exact absurd (.inl ⟨rfl, by simp⟩) c2
      have h64 : q.length ≤ 64 := by
        rcases Nat.lt_or_ge 64 q.length with h | h
        · exact absurd (.inr (.inr (.inl h))) c2
        · exact h
      have hl : lb = false → q.length = 64 := fun h => by
        have h2 : ¬ q.length < 64 := fun e => c2 (.inr (.inr (.inr ⟨h, e⟩)))
        omega
      by_cases c3 : 1024 < (allD L).length + q.length
      · rw [if_pos c3, if_pos c3]
        exact (refput_long base g OK L sk f lb v A q.length c w hk hb hp hs hf h64 hl c3).mono fun e w' h => ⟨_, _, h.1, Kd.R_nil _ _ _ _ _, h.2⟩
      · rw [if_neg c3, if_neg c3]
        have := refput_yes base g OK L sk f lb v A q.length c q w hk hb hs hf h64 hl (by omega) hq hOK hLn
        cases lb
        · exact this.mono fun e w' ⟨vo, v', h1, h2, h3⟩ => ⟨vo, v', h1, h2, h3⟩
        · exact this.mono fun e w' ⟨vo, v', h1, h2, h3⟩ => ⟨vo, v', h1, by rw [allD_snoc] at h2; exact h2, h3⟩
end Go.Proofs.Ytmhninlndjcikaa
