/- The document's basket: Put, what is refused. -/
import Derived.Test.YtmhninlndjcikaaKh
import Derived.Test.YtmhninlndjcikaaO
namespace Go.Proofs.Ytmhninlndjcikaa
open Go.RowKit Go.Proofs.YtmhninlndjcikaaW.PrintWords Go.Proofs.YtmhninlndjcikaaW.PrintLast Go.Proofs.YtmhninlndjcikaaW.PrintMore
set_option linter.unusedVariables false
set_option linter.unusedSimpArgs false

/-- The document's basket: its block, and the row of its pieces; OK: where these may lie. -/
def Rb (w : World) (base g : Nat) (OK : Nat → Prop) (L : List Pc) (sk : Bool) (v : Value) : Prop := Rk w g v sk ∧ kP.R 49 w base (fun b => b ≠ g ∧ OK b) v L
/-- How the world may have turned. -/
def RPut (w w' : World) (base g : Nat) (OK : Nat → Prop) (v : Value) (L' : List Pc) (sk' : Bool) (v' : Value) : Prop := Rb w' base g OK L' sk' v' ∧ KeepBut w w' g v.ownBlock ∧ Below base w w'
theorem Rb.below {w w' : World} {base g : Nat} {OK : Nat → Prop} {L : List Pc} {sk : Bool} {v : Value} (h : Rb w base g OK L sk v) (hb : Below w.heap.size w w') : Rb w' base g OK L sk v := ⟨blk_below h.1 hb, Kd.R_below h.2 hb⟩
theorem two_set (w : World) (g : Nat) (a b : Value) (t : TypeId) (h : w.heap[g]? = some (.cells #[a, b] t (0, 0))) (a' b' : Value) :
    ((w.setCell ⟨g, 0, none⟩ a').setCell ⟨g, 1, none⟩ b').heap[g]? = some (.cells #[a', b'] t (0, 0)) := blk_set (blk_set h 0 a') 1 b'
theorem keep_below {w w1 w2 : World} {g : Nat} {row : Option Nat} (h : Below w.heap.size w w1) (k : KeepBut w1 w2 g row) : KeepBut w w2 g row :=
  ⟨Nat.le_trans h.size k.1, fun i hi hg hr => (k.2 i (Nat.lt_of_lt_of_le hi h.size) hg hr).trans (h.block i hi)⟩

set_option maxRecDepth 100000 in
set_option maxHeartbeats 4000000 in
theorem refput_no (base g : Nat) (OK : Nat → Prop) (L : List Pc) (sk f lb : Bool) (v : Value) (A : Option Addr) (n c : Nat) (w : World) (hk : Rb w base g OK L sk v) (hb : base ≤ g) (hp : (allD L).length ≤ 1024) (hn : n ≤ 9223372036854775807) :
    (sk = true → f = false →
      Calls Try.prog 17 #[.pointer (some ⟨g, 0, none⟩), .agg #[.bool f, .bool lb, .slice A n c]] w fun e w' => e = .returned (.tuple #[.slice none 0 0, .bool false, .int .i64 0]) ∧ Below w.heap.size w w') ∧
    ((sk = true → f = true) → ((f = true ∧ L ≠ []) ∨ (f = false ∧ L = []) ∨ 64 < n ∨ (lb = false ∧ n < 64)) →
      Calls Try.prog 17 #[.pointer (some ⟨g, 0, none⟩), .agg #[.bool f, .bool lb, .slice A n c]] w fun e w' => e = .returned (.tuple #[.slice none 0 0, .bool false, .int .i64 2]) ∧ RPut w w' base g OK v [] true (.slice none 0 0)) := by
  obtain ⟨Q, d, hv⟩ := Kd.R_slice hk.2
  subst hv
  obtain ⟨m, hm⟩ : ∃ m, L.length = m := ⟨_, rfl⟩
  rw [hm] at hk ⊢
  have hB0 := below_alloc (Below.refl w.heap.size w) (.cells #[.bool f, .bool lb, .slice A n c] 49)
  have HB0 := Aside0.mk hB0
  have HK := Aside0.mk (hk.below hB0)
  have c0 := blk_cell HK.out.1 0
  have c1 := blk_cell HK.out.1 1
  have f0 := blk_frozen HK.out.1 0
  have f1 := blk_frozen HK.out.1 1
  have HBG := Aside0.mk hb
  have HGL := Aside0.mk (blk_lt hk.1)
  have hL0 : (L = [] ∧ m = 0) ∨ (L ≠ [] ∧ 0 < m) := by
    cases L with
    | nil => exact .inl ⟨rfl, by rw [← hm]; rfl⟩
    | cons x l => exact .inr ⟨by simp, by rw [← hm]; simp⟩
  clear hk hB0 hb
  refine ⟨?_, ?_⟩
  · intro hs hf
    subst hs hf
    clear hL0
    go_enter Try.func17, Try.ntmps17
    go_wp2_with fail
    go_ret3
    exact ⟨rfl, HB0.out⟩
  · intro hs hcs
    have key : (f = true ∧ 0 < m) ∨ (f = false ∧ m = 0) ∨ (((f = true ∧ m = 0) ∨ (f = false ∧ 0 < m)) ∧ (decide (64 < (n : Int)) = true ∨ (decide (64 < (n : Int)) = false ∧ decide ((n : Int) < 64) = true ∧ lb = false))) := by
      rcases hL0 with ⟨h1, h2⟩ | ⟨h1, h2⟩
      · cases f
        · exact .inr (.inl ⟨rfl, h2⟩)
        · refine .inr (.inr ⟨.inl ⟨rfl, h2⟩, ?_⟩)
          rcases hcs with h | h | h | h
          · exact absurd h1 h.2
          · cases h.1
          · exact .inl (decide_eq_true (by omega))
          · by_cases e : 64 < n
            · omega
            · exact .inr ⟨decide_eq_false (by omega), decide_eq_true (by omega), h.1⟩
      · cases f
        · refine .inr (.inr ⟨.inr ⟨rfl, h2⟩, ?_⟩)
          rcases hcs with h | h | h | h
          · cases h.1
          · exact absurd h.2 h1
          · exact .inl (decide_eq_true (by omega))
          · by_cases e : 64 < n
            · omega
            · exact .inr ⟨decide_eq_false (by omega), decide_eq_true (by omega), h.1⟩
        · exact .inl ⟨rfl, h2⟩
    have hsf : sk = false ∨ (sk = true ∧ f = true) := by
      cases sk
      · exact .inl rfl
      · exact .inr ⟨rfl, hs rfl⟩
    clear hs hcs hL0 hm
    have fin : ∀ w1 : World, w1.heap = (w.alloc (.cells #[.bool f, .bool lb, .slice A n c] 49)).heap → True := fun _ _ => trivial
    clear fin
    rcases key with ⟨rfl, h2⟩ | ⟨rfl, rfl⟩ | ⟨⟨rfl, rfl⟩ | ⟨rfl, h2⟩, h3 | ⟨h3, h4, rfl⟩⟩
    all_goals
      rcases hsf with rfl | ⟨rfl, h⟩
      all_goals first
        | (cases h; done)
        | (go_enter Try.func17, Try.ntmps17
           go_wp2_with fail
           go_ret3
           refine ⟨rfl, ⟨two_set _ _ _ _ _ HK.out.1 _ _, Kd.R_nil _ _ _ _ _⟩, keep_below HB0.out (((KeepBut.refl _ g _).set_ 0 _).set_ 1 _), ?_⟩
           exact ((HB0.out.mono (Nat.le_trans HBG.out (Nat.le_of_lt HGL.out))).setCell HBG.out _).setCell HBG.out _)
end Go.Proofs.Ytmhninlndjcikaa
