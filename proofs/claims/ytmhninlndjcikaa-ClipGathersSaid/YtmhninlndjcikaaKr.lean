/- clip.Basket: Put whole, Held, Open, Clear; the nil basket. -/
import Derived.Test.YtmhninlndjcikaaKq
namespace Go.Proofs.Ytmhninlndjcikaa
open Go.RowKit Go.Proofs.YtmhninlndjcikaaW.PrintWords Go.Proofs.YtmhninlndjcikaaW.PrintLast Go.Proofs.YtmhninlndjcikaaW.PrintMore
set_option linter.unusedVariables false
set_option linter.unusedSimpArgs false

theorem putN_len {k : Bs} {x : Pc} (h : k.p.length ≤ 1024) : (putN k x).1.p.length ≤ 1024 := by
  unfold putN
  split
  · exact h
  · split
    · simp
    · split
      · simp
      · split
        · simp
        · simp; omega
theorem put_any (base g : Nat) (k : Bs) (v : Value) (x : Pc) (A : Option Addr) (c : Nat) (w : World) (hk : Bk w base g k v) (hb : base ≤ g) (hp : k.p.length ≤ 1024) (hq : (Kd.int .u8).C w A x.d.length x.d) (hc : x.d.length ≤ c) :
    Calls Try.prog 15 #[.pointer (some ⟨g, 0, none⟩), .agg #[.bool x.f, .bool x.l, .slice A x.d.length c]] w fun e w' => ∃ vo v', e = .returned (.tuple #[vo, .bool (putN k x).2.2.1, .int .i64 (putN k x).2.2.2]) ∧ (Kd.int .u8).R 5 w' base (fun _ => True) vo (putN k x).2.1 ∧ Put' w w' base g v (putN k x).1 v' := by
  obtain ⟨pp, op, sk⟩ := k
  obtain ⟨f, l, q⟩ := x
  simp only at hk hp hq hc
  have hn := hq.2.1
  obtain ⟨n1, n2, n3⟩ := put_no base g pp op sk f l v A q.length c w hk hb hp hn
  unfold putN
  simp only
  by_cases c1 : sk = true ∧ f = false
  · rw [if_pos c1]
    exact (n1 c1.1 c1.2).mono fun e w' h => ⟨_, _, h.1, Kd.R_nil _ _ _ _ _, h.2⟩
  · rw [if_neg c1]
    have hs : sk = true → f = true := fun h => by
      cases hf : f
      · exact absurd ⟨h, hf⟩ c1
      · rfl
    by_cases c2 : f = op ∨ 64 < q.length ∨ (l = false ∧ q.length < 64)
    · rw [if_pos c2]
      exact (n2 hs c2).mono fun e w' h => ⟨_, _, h.1, Kd.R_nil _ _ _ _ _, h.2⟩
    · rw [if_neg c2]
      by_cases c3 : 1024 < pp.length + q.length
      · rw [if_pos c3]
        exact (n3 hs c2 c3).mono fun e w' h => ⟨_, _, h.1, Kd.R_nil _ _ _ _ _, h.2⟩
      · rw [if_neg c3]
        have hl : l = false → q.length = 64 := fun h => by
          have h1 : ¬ 64 < q.length := fun e => c2 (.inr (.inl e))
          have h2 : ¬ q.length < 64 := fun e => c2 (.inr (.inr ⟨h, e⟩))
          omega
        have h64 : q.length ≤ 64 := by
          rcases Nat.lt_or_ge 64 q.length with h | h
          · exact absurd (.inr (.inl h)) c2
          · exact h
        have := put_yes base g pp q op sk f l v A q.length c w hk hb (by omega) hq hc hs h64 (fun h => c2 (.inl h)) hl
        cases l
        · exact this.mono fun e w' ⟨vo, v', h1, h2, h3⟩ => ⟨vo, v', h1, h2, h3⟩
        · exact this.mono fun e w' ⟨vo, v', h1, h2, h3⟩ => ⟨vo, v', h1, h2, h3⟩

set_option maxHeartbeats 1000000 in
theorem held_any (base g : Nat) (k : Bs) (v : Value) (w : World) (hk : Bk w base g k v) :
    Calls Try.prog 18 #[.pointer (some ⟨g, 0, none⟩)] w fun e w' => e = .returned (.int .i64 k.p.length) ∧ Below w.heap.size w w' := by
  obtain ⟨Q, d, hv⟩ := Kd.R_slice hk.2
  subst hv
  have c0 := blk_cell hk.1 0
  clear hk
  go_enter Try.func18, Try.ntmps18
  go_wp2_with fail
  go_ret
  exact ⟨rfl, Below.refl _ _⟩
set_option maxHeartbeats 1000000 in
theorem open_any (base g : Nat) (k : Bs) (v : Value) (w : World) (hk : Bk w base g k v) :
    Calls Try.prog 20 #[.pointer (some ⟨g, 0, none⟩)] w fun e w' => e = .returned (.bool k.op) ∧ Below w.heap.size w w' := by
  have c1 := blk_cell hk.1 1
  clear hk
  go_enter Try.func20, Try.ntmps20
  go_wp2_with fail
  go_ret
  exact ⟨rfl, Below.refl _ _⟩
set_option maxHeartbeats 1000000 in
theorem clear_any (base g : Nat) (k : Bs) (v : Value) (w : World) (hk : Bk w base g k v) (hb : base ≤ g) :
    Calls Try.prog 22 #[.pointer (some ⟨g, 0, none⟩)] w fun e w' => e = .returned (.tuple #[]) ∧ Put' w w' base g v B0 (.slice none 0 0) := by
  obtain ⟨Q, d, hv⟩ := Kd.R_slice hk.2
  subst hv
  have c0 := blk_cell hk.1 0
  have c1 := blk_cell hk.1 1
  have c2 := blk_cell hk.1 2
  have f0 := blk_frozen hk.1 0
  have f1 := blk_frozen hk.1 1
  have f2 := blk_frozen hk.1 2
  have HK := Aside0.mk hk
  clear hk
  go_enter Try.func22, Try.ntmps22
  go_wp2_with fail
  go_end0
  refine ⟨rfl, ⟨three_set _ _ _ _ _ _ HK.out.1 _ _ _, Kd.R_nil _ _ _ _ _⟩, ?_, .inl rfl, (((Below.refl base w).setCell hb _).setCell hb _).setCell hb _⟩
  exact (((KeepBut.refl w g _).set_ 0 _).set_ 1 _).set_ 2 _

/-! ### The nil basket -/
set_option maxHeartbeats 1000000 in
theorem put_nil (f l : Bool) (A : Option Addr) (n c : Nat) (w : World) :
    Calls Try.prog 15 #[.pointer none, .agg #[.bool f, .bool l, .slice A n c]] w fun e w' => e = .returned (.tuple #[.slice none 0 0, .bool false, .int .i64 3]) ∧ Below w.heap.size w w' := by
  go_enter Try.func15, Try.ntmps15
  go_wp2_with fail
  go_ret3
  exact ⟨rfl, below_alloc (Below.refl _ _) _⟩
set_option maxHeartbeats 1000000 in
theorem held_nil (w : World) :
    Calls Try.prog 18 #[.pointer none] w fun e w' => e = .returned (.int .i64 0) ∧ Below w.heap.size w w' := by
  go_enter Try.func18, Try.ntmps18
  go_wp2_with fail
  go_ret
  exact ⟨rfl, Below.refl _ _⟩
set_option maxHeartbeats 1000000 in
theorem open_nil (w : World) :
    Calls Try.prog 20 #[.pointer none] w fun e w' => e = .returned (.bool false) ∧ Below w.heap.size w w' := by
  go_enter Try.func20, Try.ntmps20
  go_wp2_with fail
  go_ret
  exact ⟨rfl, Below.refl _ _⟩
set_option maxHeartbeats 1000000 in
theorem clear_nil (w : World) :
    Calls Try.prog 22 #[.pointer none] w fun e w' => e = .returned (.tuple #[]) ∧ Below w.heap.size w w' := by
  go_enter Try.func22, Try.ntmps22
  go_wp2_with fail
  go_end0
  exact ⟨rfl, Below.refl _ _⟩
end Go.Proofs.Ytmhninlndjcikaa
