/- ink.Pen: what it holds; add, Byte. -/
import Derived.Test.YthimlgkegobaeaaDoorR
import Derived.Test.YthimlgkegobaeaaDoorA
import Derived.RegionTactic
import Derived.BigRegion
namespace Go.Proofs.YthimlgkegobaeaaDoor
open Go.RowKit Go.Proofs.YthimlgkegobaeaaDoorW.PrintWords Go.Proofs.YthimlgkegobaeaaDoorW.PrintLast Go.Proofs.YthimlgkegobaeaaDoorW.PrintMore
set_option linter.unusedVariables false
set_option linter.unusedSimpArgs false

theorem np_info : (Tryd.prog.info? 5).map (fun i => (i.zero, i.size, i.bytes)) = some (some (.int .u8 0), 1, 1) := by kernel_rfl
/-- A pen. -/
def Pn (w : World) (base g : Nat) (p : List Int) (v : Value) : Prop := w.heap[g]? = some (.cells #[v] 83 (0, 0)) ∧ (Kd.int .u8).R 5 w base (fun b => b ≠ g) v p
/-- How the world may have turned. -/
def PPut (w w' : World) (base g : Nat) (v : Value) (p' : List Int) (v' : Value) : Prop :=
  Pn w' base g p' v' ∧ KeepBut w w' g v.ownBlock ∧ (v'.ownBlock = none ∨ v'.ownBlock = v.ownBlock ∨ ∃ b, v'.ownBlock = some b ∧ w.heap.size ≤ b) ∧ Below base w w'
theorem keepn_drew {w w1 : World} {g : Nat} {row : Option Nat} (h : KeepBut w w1 g row) : KeepBut w w1.drew g row := h
theorem keepn_below {w w1 w2 : World} {g : Nat} {row : Option Nat} (h : Below w.heap.size w w1) (k : KeepBut w1 w2 g row) : KeepBut w w2 g row :=
  ⟨Nat.le_trans h.size k.1, fun i hi hg hr => (k.2 i (Nat.lt_of_lt_of_le hi h.size) hg hr).trans (h.block i hi)⟩
theorem keepn_then {w w1 w2 : World} {g : Nat} {row : Option Nat} (h : KeepBut w w1 g row) (k : Below w1.heap.size w1 w2) : KeepBut w w2 g row :=
  ⟨Nat.le_trans h.1 k.size, fun i hi hg hr => (k.block i (Nat.lt_of_lt_of_le hi h.1)).trans (h.2 i hi hg hr)⟩
theorem keepn_more {w w1 : World} {g : Nat} {row : Option Nat} (h : KeepBut w w1 g none) : KeepBut w w1 g row := ⟨h.1, fun i hi hg _ => h.2 i hi hg (by simp)⟩
theorem blkn_grown {w w1 : World} {g : Nat} {row : Option Nat} {cs : Array Value} {t : TypeId} {fr : Nat × Nat} (hg : w.grownBy w1 row) (h : w.heap[g]? = some (.cells cs t fr)) (hr : some g ≠ row) : w1.heap[g]? = some (.cells cs t fr) := by
  rw [hg.block g (blk_lt h) hr]; exact h
theorem Rn_C {α : Type} {d : Kd α} {e base n c : Nat} {w : World} {ok : Nat → Prop} {Q : Option Addr} {xs : List α} (h : d.R e w base ok (.slice Q n c) xs) : xs.length = n ∧ n ≤ c ∧ d.C w Q n xs := by
  obtain ⟨A, c', he, hl, hC⟩ := Kd.R_reads h
  injection he with h1 h2 h3
  subst h1 h2 h3
  exact ⟨rfl, hl, hC⟩
theorem Pn.lt {w : World} {base g : Nat} {p : List Int} {v : Value} (h : Pn w base g p v) : g < w.heap.size := blk_lt h.1
theorem Pn.own {w : World} {base g : Nat} {p : List Int} {v : Value} (h : Pn w base g p v) : ∀ b, v.ownBlock = some b → b < w.heap.size := Kd.R_lt h.2
theorem Pn.ne {w : World} {base g : Nat} {p : List Int} {v : Value} (h : Pn w base g p v) : v.ownBlock ≠ some g := fun e => h.2.1 _ e rfl
theorem Pn.below {w w' : World} {base g : Nat} {p : List Int} {v : Value} (h : Pn w base g p v) (hb : Below w.heap.size w w') : Pn w' base g p v := ⟨blk_below h.1 hb, Kd.R_below h.2 hb⟩
theorem PPut.of_below {w w' : World} {base g : Nat} {p : List Int} {v : Value} (h : Pn w base g p v) (hbg : base ≤ g) (hb : Below w.heap.size w w') : PPut w w' base g v p v :=
  ⟨h.below hb, KeepBut.of_below hb g _, .inr (.inl rfl), hb.mono (Nat.le_trans hbg (Nat.le_of_lt h.lt))⟩
theorem PPut.trans {w w1 w2 : World} {base g : Nat} {v v1 v2 : Value} {p1 p2 : List Int} (h : PPut w w1 base g v p1 v1) (h' : PPut w1 w2 base g v1 p2 v2) : PPut w w2 base g v p2 v2 := by
  refine ⟨h'.1, ?_, ?_, h.2.2.2.trans h'.2.2.2⟩
  · refine ⟨Nat.le_trans h.2.1.1 h'.2.1.1, fun i hi hg hr => ?_⟩
    rw [h'.2.1.2 i (Nat.lt_of_lt_of_le hi h.2.1.1) hg (fun e => ?_), h.2.1.2 i hi hg hr]
    rcases h.2.2.1 with e1 | e1 | ⟨b, e1, hb⟩
    · rw [e1] at e; cases e
    · rw [e1] at e; exact hr e
    · rw [e1] at e; injection e with e; omega
  · rcases h'.2.2.1 with e | e | ⟨b, e, hb⟩
    · exact .inl e
    · rcases h.2.2.1 with e1 | e1 | ⟨b, e1, hb⟩
      · exact .inl (e.trans e1)
      · exact .inr (.inl (e.trans e1))
      · exact .inr (.inr ⟨b, e.trans e1, hb⟩)
    · exact .inr (.inr ⟨b, e, Nat.le_trans h.2.1.1 hb⟩)
/-- A step that leaves all as it was, ahead of a put. -/
theorem PPut.after {w w1 w2 : World} {base g : Nat} {v v' : Value} {p p' : List Int} (hb : base ≤ g) (hk : Pn w base g p v) (h : Below w.heap.size w w1) (h' : PPut w1 w2 base g v p' v') : PPut w w2 base g v p' v' := (PPut.of_below hk hb h).trans h'
/-- Another pen, of another row. -/
theorem PPut.other {w w' : World} {base base2 g g2 : Nat} {v v' v2 : Value} {p' p2 : List Int} (h : PPut w w' base g v p' v') (h2 : Pn w base2 g2 p2 v2) (hne : g2 ≠ g) (hg2 : v.ownBlock ≠ some g2) (ha : ∀ b, v2.ownBlock = some b → b ≠ g ∧ v.ownBlock ≠ some b) :
    Pn w' base2 g2 p2 v2 ∧ ∀ b, v2.ownBlock = some b → v'.ownBlock ≠ some b := by
  refine ⟨⟨?_, ?_⟩, fun b hb e => ?_⟩
  · rw [h.2.1.2 g2 h2.lt hne (fun e => hg2 e.symm)]; exact h2.1
  · have flat : ∀ {ok1 ok2 : Nat → Prop} {x : Int} {cs : List Value}, (Kd.int .u8).M w base2 ok1 x cs → (Kd.int .u8).M w base2 ok2 x cs := fun h => h
    have a := Kd.R_flat (ok' := fun b => b ≠ g2 ∧ v2.ownBlock = some b) flat h2.2 (fun b hb hk => ⟨hk, hb⟩)
    have b := Kd.R_step a (fun b hb hlt => h.2.1.2 b hlt (ha b hb.2).1 (fun e => (ha b hb.2).2 e.symm))
    exact Kd.R_mono b (fun b hb => hb.1)
  · rcases h.2.2.1 with e1 | e1 | ⟨b', e1, hb'⟩
    · rw [e1] at e; cases e
    · rw [e1] at e; exact (ha b hb).2 e
    · rw [e1] at e; injection e with e; have := h2.own b hb; omega

set_option maxRecDepth 100000 in
set_option maxHeartbeats 2000000 in
theorem add_any (base g : Nat) (p q : List Int) (v : Value) (A : Option Addr) (n c : Nat) (w : World) (hk : Pn w base g p v) (hb : base ≤ g) (hq : (Kd.int .u8).C w A n q) (hl : p.length + n ≤ 100000000) :
    Calls Tryd.prog 67 #[.pointer (some ⟨g, 0, none⟩), .slice A n c] w fun e w' => ∃ v', e = .returned (.pointer (some ⟨g, 0, none⟩)) ∧ PPut w w' base g v (p ++ q) v' := by
  have c0 := blk_cell hk.1 0
  have HK := Aside0.mk hk
  have HQ := Aside0.mk hq
  have HB := Aside0.mk hb
  have HL : Aside0 ((p.length + n) * 1 ≤ 140737488355328) := ⟨by omega⟩
  obtain ⟨Q, d, hv⟩ := Kd.R_slice hk.2
  obtain ⟨m, hm⟩ : ∃ m, p.length = m := ⟨_, rfl⟩
  rw [hm] at hv
  subst hv
  clear hk hq hb hl hm
  go_enter Tryd.func67, Tryd.ntmps67
  go_wp2_with (at_builtin; go_loud (refine R_app .u8 (w0 := w) base rfl (.tmp 11) (.tmp 12) 36 5 1 rfl Tryd.underlying36 np_info (by decide) (.slice Q m d) p q A n c (fun b => b ≠ g) rfl rfl HK.out.2 HQ.out (fun k hk e => by have := HK.out.lt; omega) (Below.refl _ _) (Nat.le_trans HB.out (Nat.le_of_lt HK.out.lt)) HL.out ?_))
  intro v1 w1 ho hb1 hg hat
  obtain ⟨Q1, d1, hv1⟩ := Kd.R_slice ho
  obtain ⟨ll, hll⟩ : ∃ ll, (p ++ q).length = ll := ⟨_, rfl⟩
  rw [hll] at hv1
  clear hll
  subst hv1
  have hw1 := blkn_grown hg HK.out.1 (fun e => HK.out.ne e.symm)
  have y0 := blk_frozen hw1 0
  have z0 := blk_cell hw1 0
  have HO1 := Aside0.mk ho
  have HG1 := Aside0.mk hg
  have HA1 := Aside0.mk hat
  have HB1 := Aside0.mk hb1
  have HW1 := Aside0.mk hw1
  clear ho hb1 hg hat hw1
  go_wp2_with fail
  go_ret
  exact ⟨_, rfl, ⟨blk_set HW1.out 0 _, Kd.R_far HO1.out (fun k hk => hk) _⟩, (KeepBut.of_grown HG1.out g).set_ 0 _, .inr HA1.out, HB1.out.setCell HB.out _⟩
end Go.Proofs.YthimlgkegobaeaaDoor
