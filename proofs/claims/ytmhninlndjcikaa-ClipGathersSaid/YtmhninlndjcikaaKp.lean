/- clip.Basket: fail, Put. -/
import Derived.Test.YtmhninlndjcikaaKd
import Derived.RegionTactic
import Derived.BigRegion
namespace Go.Proofs.Ytmhninlndjcikaa
open Go.RowKit Go.Proofs.YtmhninlndjcikaaW.PrintWords Go.Proofs.YtmhninlndjcikaaW.PrintLast Go.Proofs.YtmhninlndjcikaaW.PrintMore
set_option linter.unusedVariables false
set_option linter.unusedSimpArgs false

/-- A basket. -/
structure Bs where
  p : List Int
  op : Bool
  sk : Bool
def B0 : Bs := ⟨[], false, false⟩
def Bk (w : World) (base g : Nat) (k : Bs) (v : Value) : Prop := w.heap[g]? = some (.cells #[v, .bool k.op, .bool k.sk] 37 (0, 0)) ∧ (Kd.int .u8).R 5 w base (fun b => b ≠ g) v k.p
/-- What Put does. -/
def putN (k : Bs) (x : Pc) : Bs × (List Int × Bool × Int) :=
  if k.sk = true ∧ x.f = false then (k, ([], false, 0))
  else if x.f = k.op ∨ 64 < x.d.length ∨ (x.l = false ∧ x.d.length < 64) then (⟨[], false, true⟩, ([], false, 2))
  else if 1024 < k.p.length + x.d.length then (⟨[], false, true⟩, ([], false, 4))
  else if x.l = true then (⟨[], false, false⟩, (k.p ++ x.d, true, 0))
  else (⟨k.p ++ x.d, true, false⟩, ([], false, 0))
/-- How the world may have turned. -/
def Put' (w w' : World) (base g : Nat) (v : Value) (k' : Bs) (v' : Value) : Prop :=
  Bk w' base g k' v' ∧ KeepBut w w' g v.ownBlock ∧ (v'.ownBlock = none ∨ v'.ownBlock = v.ownBlock ∨ ∃ b, v'.ownBlock = some b ∧ w.heap.size ≤ b) ∧ Below base w w'
theorem three_set (w : World) (g : Nat) (a b c : Value) (t : TypeId) (h : w.heap[g]? = some (.cells #[a, b, c] t (0, 0))) (a' b' c' : Value) :
    (((w.setCell ⟨g, 0, none⟩ a').setCell ⟨g, 1, none⟩ b').setCell ⟨g, 2, none⟩ c').heap[g]? = some (.cells #[a', b', c'] t (0, 0)) := by
  have h1 := blk_set h 0 a'
  have h2 := blk_set h1 1 b'
  have h3 := blk_set h2 2 c'
  exact h3

set_option maxHeartbeats 1000000 in
theorem fail_any (base g : Nat) (k : Bs) (v : Value) (e : Int) (w : World) (hk : Bk w base g k v) (hb : base ≤ g) :
    Calls Try.prog 24 #[.pointer (some ⟨g, 0, none⟩), .int .i64 e] w fun e' w' => e' = .returned (.tuple #[.slice none 0 0, .bool false, .int .i64 e]) ∧ Put' w w' base g v ⟨[], false, true⟩ (.slice none 0 0) := by
  have c0 := blk_cell hk.1 0
  have c1 := blk_cell hk.1 1
  have c2 := blk_cell hk.1 2
  have f0 := blk_frozen hk.1 0
  have f1 := blk_frozen hk.1 1
  have f2 := blk_frozen hk.1 2
  have HK := Aside0.mk hk
  clear hk
  go_enter Try.func24, Try.ntmps24
  go_wp2_with fail
  go_ret3
  refine ⟨rfl, ⟨three_set _ _ _ _ _ _ HK.out.1 _ _ _, Kd.R_nil _ _ _ _ _⟩, ?_, .inl rfl, (((Below.refl base w).setCell hb _).setCell hb _).setCell hb _⟩
  exact (((KeepBut.refl w g v.ownBlock).set_ 0 _).set_ 1 _).set_ 2 _

theorem put_alloc {w w' : World} {base g : Nat} {v v' : Value} {k' : Bs} {o : Obj} (hb : base ≤ g) (hg : g < w.heap.size) (hv : ∀ b, v.ownBlock = some b → b < w.heap.size) (h : Put' (w.alloc o) w' base g v k' v') : Put' w w' base g v k' v' := by
  obtain ⟨h1, h2, h3, h9⟩ := h
  refine ⟨h1, ⟨Nat.le_trans (by simp) h2.1, fun i hi h4 h5 => ?_⟩, ?_, ((Below.refl base w).alloc (by omega) o).trans h9⟩
  · rw [h2.2 i (by simp; omega) h4 h5]
    exact (below_alloc (Below.refl w.heap.size w) o).block i hi
  · rcases h3 with h | h | ⟨b, h, hb⟩
    · exact .inl h
    · exact .inr (.inl h)
    · exact .inr (.inr ⟨b, h, by simp at hb; omega⟩)
theorem put_drew {w w' : World} {base g : Nat} {v v' : Value} {k' : Bs} (h : Put' w.drew w' base g v k' v') : Put' w w' base g v k' v' := ⟨h.1, h.2.1, h.2.2.1, (Below.refl base w).drew.trans h.2.2.2⟩
theorem Bk.alloc {w : World} {base g : Nat} {k : Bs} {v : Value} (h : Bk w base g k v) (o : Obj) : Bk (w.alloc o) base g k v := ⟨blk_alloc h.1 o, Kd.R_below h.2 (below_alloc (Below.refl _ _) o)⟩
theorem Bk.drew {w : World} {base g : Nat} {k : Bs} {v : Value} (h : Bk w base g k v) : Bk w.drew base g k v := ⟨h.1, Kd.R_drew h.2⟩
theorem Bk.own {w : World} {base g : Nat} {k : Bs} {v : Value} (h : Bk w base g k v) : ∀ b, v.ownBlock = some b → b < w.heap.size := fun b hb => by
  obtain ⟨inner, ho⟩ := Kd.R_own h.2
  exact own_lt ho b hb

set_option maxRecDepth 100000 in
set_option maxHeartbeats 1000000 in
/-- What is left out; what has no form; what is too long. -/
theorem put_no (base g : Nat) (pp : List Int) (op sk f l : Bool) (v : Value) (A : Option Addr) (n c : Nat) (w : World) (hk : Bk w base g ⟨pp, op, sk⟩ v) (hb : base ≤ g) (hp : pp.length ≤ 1024) (hn : n ≤ 9223372036854775807) :
    (sk = true → f = false →
      Calls Try.prog 15 #[.pointer (some ⟨g, 0, none⟩), .agg #[.bool f, .bool l, .slice A n c]] w fun e w' => e = .returned (.tuple #[.slice none 0 0, .bool false, .int .i64 0]) ∧ Put' w w' base g v ⟨pp, op, sk⟩ v) ∧
    ((sk = true → f = true) → (f = op ∨ 64 < n ∨ (l = false ∧ n < 64)) →
      Calls Try.prog 15 #[.pointer (some ⟨g, 0, none⟩), .agg #[.bool f, .bool l, .slice A n c]] w fun e w' => e = .returned (.tuple #[.slice none 0 0, .bool false, .int .i64 2]) ∧ Put' w w' base g v ⟨[], false, true⟩ (.slice none 0 0)) ∧
    ((sk = true → f = true) → ¬ (f = op ∨ 64 < n ∨ (l = false ∧ n < 64)) → 1024 < pp.length + n →
      Calls Try.prog 15 #[.pointer (some ⟨g, 0, none⟩), .agg #[.bool f, .bool l, .slice A n c]] w fun e w' => e = .returned (.tuple #[.slice none 0 0, .bool false, .int .i64 4]) ∧ Put' w w' base g v ⟨[], false, true⟩ (.slice none 0 0)) := by
  obtain ⟨Q, d, hv⟩ := Kd.R_slice hk.2
  simp only at hv
  subst hv
  have HK := Aside0.mk (hk.alloc (.cells #[.bool f, .bool l, .slice A n c] 31))
  have HG := Aside0.mk (blk_lt hk.1)
  have HO := Aside0.mk hk.own
  have c0 := blk_cell HK.out.1 0
  have c1 := blk_cell HK.out.1 1
  have c2 := blk_cell HK.out.1 2
  have HKW := Aside0.mk hk
  have HBG := Aside0.mk hb
  clear hk hb
  refine ⟨?_, ?_, ?_⟩
  · intro hs hf
    subst hs hf
    go_enter Try.func15, Try.ntmps15
    go_wp2_with fail
    go_ret3
    exact ⟨rfl, HK.out, KeepBut.of_below (below_alloc (Below.refl _ _) _) _ _, .inr (.inl rfl), (Below.refl base w).alloc (Nat.le_trans HBG.out (Nat.le_of_lt HG.out)) _⟩
  · intro hs hc
    have key : (f == op) = true ∨ ((f == op) = false ∧ decide (64 < (n : Int)) = true) ∨ ((f == op) = false ∧ decide (64 < (n : Int)) = false ∧ l = false ∧ decide ((n : Int) < 64) = true) := by
      rcases hc with h | h | ⟨h, h'⟩
      · exact .inl (by simp [h])
      · cases e : (f == op)
        · exact .inr (.inl ⟨rfl, decide_eq_true (by omega)⟩)
        · exact .inl rfl
      · cases e : (f == op)
        · exact .inr (.inr ⟨rfl, decide_eq_false (by omega), h, decide_eq_true (by omega)⟩)
        · exact .inl rfl
    have hsf : sk = false ∨ (sk = true ∧ f = true) := by
      cases sk
      · exact .inl rfl
      · exact .inr ⟨rfl, hs rfl⟩
    clear hs hc
    rcases hsf with rfl | ⟨rfl, rfl⟩
    all_goals
      rcases key with h1 | ⟨h1, h2⟩ | ⟨h1, h2, rfl, h3⟩
      all_goals
        go_enter Try.func15, Try.ntmps15
        go_wp2_with fail
        go_region
        go_wp2_with fail
        refine (fail_any base g _ _ 2 _ HK.out.drew HBG.out).mono ?_
        rintro e w2 ⟨rfl, h⟩
        have H := Aside0.mk (put_alloc HBG.out HG.out HO.out (put_drew h))
        clear h
        go_wp2_with fail
        go_ret3
        exact ⟨rfl, H.out⟩
  · intro hs hc hl
    have h1 : (f == op) = false := by
      cases e : (f == op)
      · rfl
      · exact absurd (.inl (by simpa using e)) hc
    have h2 : decide (64 < (n : Int)) = false := decide_eq_false (fun h => hc (.inr (.inl (by omega))))
    have h2' : n ≤ 64 := by
      rcases Nat.lt_or_ge 64 n with h | h
      · exact absurd (.inr (.inl h)) hc
      · exact h
    have h3 : l = true ∨ (l = false ∧ decide ((n : Int) < 64) = false) := by
      cases l
      · exact .inr ⟨rfl, decide_eq_false (fun h => hc (.inr (.inr ⟨rfl, by omega⟩)))⟩
      · exact .inl rfl
    have h4 : decide ((1024 : Int) < (pp.length : Int) + (n : Int)) = true := decide_eq_true (by omega)
    have h5 : (1024 : Int) < (pp.length : Int) + (n : Int) := by omega
    have hsf : sk = false ∨ (sk = true ∧ f = true) := by
      cases sk
      · exact .inl rfl
      · exact .inr ⟨rfl, hs rfl⟩
    clear hs hc hl
    generalize pp.length = m at *
    rcases hsf with rfl | ⟨rfl, rfl⟩
    all_goals
      rcases h3 with rfl | ⟨rfl, h3⟩
      all_goals
        go_enter Try.func15, Try.ntmps15
        go_wp2_with fail
        go_region
        go_wp2_with fail
        refine (fail_any base g _ _ 4 _ HK.out.drew HBG.out).mono ?_
        rintro e w2 ⟨rfl, h⟩
        have H := Aside0.mk (put_alloc HBG.out HG.out HO.out (put_drew h))
        clear h
        go_wp2_with fail
        go_ret3
        exact ⟨rfl, H.out⟩
end Go.Proofs.Ytmhninlndjcikaa
