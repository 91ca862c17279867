/- CodeTurns: the walk. -/
import Derived.Test.YthimlgkegobaeaaDoorC1
namespace Go.Proofs.YthimlgkegobaeaaDoor
open Go.RowKit Go.Shelf Go.Proofs.YthimlgkegobaeaaDoorW.PrintWords Go.Proofs.YthimlgkegobaeaaDoorW.PrintLast Go.Proofs.YthimlgkegobaeaaDoorW.PrintMore
set_option linter.unusedVariables false
set_option linter.unusedSimpArgs false

/-- Is a letter among the first i? -/
def usedB (U : ByteArray) (L : Int) (i : Nat) : Bool := (List.range i).any fun (j : Nat) => bt U (j : Int) == L
theorem usedB_zero (U : ByteArray) (L : Int) : usedB U L 0 = false := rfl
theorem usedB_succ (U : ByteArray) (L : Int) (i : Nat) : usedB U L (i + 1) = (usedB U L i || (bt U (i : Int) == L)) := by
  unfold usedB
  rw [List.range_succ, List.any_append]; simp
theorem used_a : ∀ op : Fin 26, usedB (partU op.val) 65 (partU op.val).size = (useO op.val).a := by decide +kernel
theorem used_b : ∀ op : Fin 26, usedB (partU op.val) 66 (partU op.val).size = (useO op.val).b := by decide +kernel
theorem used_c : ∀ op : Fin 26, (useO op.val).n ≠ 6 → usedB (partU op.val) 67 (partU op.val).size = (useO op.val).c := by decide +kernel
theorem part_size : ∀ op : Fin 26, (partU op.val).size ≤ 3 := by decide +kernel
theorem row_24 : ∀ op : Fin 26, (useO op.val).n = 6 ↔ op.val = 24 := by decide +kernel
/-- An instruction that may be, with another register. -/
theorem turn_a {op a b c : Nat} {n : Int} {m : Nat} {N M : Int} (h : rightB op a b c n m 1 N M = true) (r : Nat) : rightB op r b c n m 1 N M = regB (useO op).a r := by
  unfold rightB at h ⊢
  simp only [Bool.and_eq_true, decide_eq_true_eq] at h
  obtain ⟨hop, h⟩ := h
  rw [decide_eq_true hop, Bool.true_and]
  have h6 := use_6 ⟨op, hop⟩
  unfold rightU at h ⊢
  split at h
  · rename_i e
    rw [if_pos e, (h6 e).1, regB_false]
    simp only [Bool.and_eq_true, decide_eq_true_eq, or_zero] at h
    obtain ⟨⟨⟨⟨⟨ha, hb⟩, hc⟩, hn⟩, hnc⟩, hm⟩ := h
    simp [or_zero, hb, hc, hn, hnc, hm]
  · rename_i e
    rw [if_neg e]
    simp only [Bool.and_eq_true] at h
    obtain ⟨⟨⟨⟨h1, h2⟩, h3⟩, h4⟩, h5⟩ := h
    rw [h1, h3, h4, h5]; simp
theorem turn_b {op a b c : Nat} {n : Int} {m : Nat} {N M : Int} (h : rightB op a b c n m 1 N M = true) (r : Nat) : rightB op a r c n m 1 N M = regB (useO op).b r := by
  unfold rightB at h ⊢
  simp only [Bool.and_eq_true, decide_eq_true_eq] at h
  obtain ⟨hop, h⟩ := h
  rw [decide_eq_true hop, Bool.true_and]
  have h6 := use_6 ⟨op, hop⟩
  unfold rightU at h ⊢
  split at h
  · rename_i e
    rw [if_pos e, (h6 e).2.1, regB_false]
    simp only [Bool.and_eq_true, decide_eq_true_eq, or_zero] at h
    obtain ⟨⟨⟨⟨⟨ha, hb⟩, hc⟩, hn⟩, hnc⟩, hm⟩ := h
    simp [or_zero, ha, hc, hn, hnc, hm]
  · rename_i e
    rw [if_neg e]
    simp only [Bool.and_eq_true] at h
    obtain ⟨⟨⟨⟨h1, h2⟩, h3⟩, h4⟩, h5⟩ := h
    rw [h1, h2, h4, h5]; simp
theorem turn_c {op a b c : Nat} {n : Int} {m : Nat} {N M : Int} (h : rightB op a b c n m 1 N M = true) (h24 : op ≠ 24) (r : Nat) : rightB op a b r n m 1 N M = regB (useO op).c r := by
  unfold rightB at h ⊢
  simp only [Bool.and_eq_true, decide_eq_true_eq] at h
  obtain ⟨hop, h⟩ := h
  rw [decide_eq_true hop, Bool.true_and]
  have e : ¬ (useO op).n = 6 := fun e => h24 ((row_24 ⟨op, hop⟩).1 e)
  unfold rightU at h ⊢
  rw [if_neg e] at h ⊢
  simp only [Bool.and_eq_true] at h
  obtain ⟨⟨⟨⟨h1, h2⟩, h3⟩, h4⟩, h5⟩ := h
  rw [h1, h2, h3, h5]; simp
theorem regB_int {r : Int} (h : 0 ≤ r) (u : Bool) : regB u r.toNat = ((r == 0) || (u && decide (r < 8))) := by
  unfold regB
  have e1 : (r.toNat == 0) = (r == 0) := by
    by_cases e : r = 0
    · subst e; rfl
    · rw [beq_eq_false_iff_ne.2 (by omega : r.toNat ≠ 0), beq_eq_false_iff_ne.2 e]
  have e2 : decide (r.toNat < 8) = decide (r < 8) := by rw [decide_eq_decide]; omega
  rw [e1, e2]
theorem own1_any (x : S25) (g : Nat) (W : World) (h : W.heap[g]? = some (.cells #[.int .u8 x.f0, .int .u8 x.f1, .int .u8 x.f2, .int .u8 x.f3, .int .i32 x.f4, .int .u32 x.f5] 25 (0, 0))) :
    Calls Tryd.prog 12 #[.slice (some ⟨g, 0, none⟩) 1 1] W fun e w' => ∃ ad c', e = .returned (.slice (some ad) 1 c') ∧ (w'.cell? ad = some (.int .u8 x.f0) ∧ w'.cell? ⟨ad.block, ad.off + 1, none⟩ = some (.int .u8 x.f1) ∧ w'.cell? ⟨ad.block, ad.off + 2, none⟩ = some (.int .u8 x.f2) ∧ w'.cell? ⟨ad.block, ad.off + 3, none⟩ = some (.int .u8 x.f3) ∧ w'.cell? ⟨ad.block, ad.off + 4, none⟩ = some (.int .i32 x.f4) ∧ w'.cell? ⟨ad.block, ad.off + 5, none⟩ = some (.int .u32 x.f5)) ∧ Below W.heap.size W w' := by
  refine (own_any (some ⟨g, 0, none⟩) 1 [x] W (one_C h) (by simp) (by simp)).mono ?_
  rintro e w' ⟨A, c, rfl, hc, hC, hb⟩
  obtain ⟨ad, rfl, c0, c1, c2, c3, c4, c5⟩ := at_T29 hC 0 (by omega) (by simp)
  have e : ∀ a : Addr, a.add (Int.toNat 0 * 6) = a := fun a => by simp [Addr.add]
  rw [e] at c0 c1 c2 c3 c4 c5
  exact ⟨ad, c, rfl, ⟨c0, c1, c2, c3, c4, c5⟩, hb⟩
attribute [local irreducible] wordN partU textX chkOk rightX useO usedB
set_option maxHeartbeats 16000000 in
set_option maxRecDepth 100000 in
theorem turns_walk (x : S25) (r cells players : Int) (w0 : World) (hT : CTab w0) (hw : OkW x) (hr : 0 ≤ r ∧ r < 256) (hc0 : 0 ≤ cells ∧ cells < 256) (hp0 : 0 ≤ players ∧ players < 256) :
    Calls Tryd.prog 3 #[.agg #[.int .u8 x.f0, .int .u8 x.f1, .int .u8 x.f2, .int .u8 x.f3, .int .i32 x.f4, .int .u32 x.f5], .int .u8 r, .int .u8 cells, .int .u8 players] w0 fun e w' => e = .returned (.bool true) ∧ Below w0.heap.size w0 w' := by
  have hok := hw.ok
  have hx0 := hok.1
  have HOK := Aside0.mk hok
  clear hw hok
  obtain ⟨N, hN⟩ : ∃ N : Int, 1 + cells % 48 = N := ⟨_, rfl⟩
  obtain ⟨M, hM⟩ : ∃ M : Int, 1 + players % 6 = M := ⟨_, rfl⟩
  have HB := Aside0.mk (below_alloc (Below.refl w0.heap.size w0) (.cells #[.int .u8 x.f0, .int .u8 x.f1, .int .u8 x.f2, .int .u8 x.f3, .int .i32 x.f4, .int .u32 x.f5] 25))
  have HLG : Aside0 (∀ z, Below (w0.alloc (.cells #[.int .u8 x.f0, .int .u8 x.f1, .int .u8 x.f2, .int .u8 x.f3, .int .i32 x.f4, .int .u32 x.f5] 25)).heap.size (w0.alloc (.cells #[.int .u8 x.f0, .int .u8 x.f1, .int .u8 x.f2, .int .u8 x.f3, .int .i32 x.f4, .int .u32 x.f5] 25)) z → z.heap[w0.heap.size]? = some (.cells #[.int .u8 x.f0, .int .u8 x.f1, .int .u8 x.f2, .int .u8 x.f3, .int .i32 x.f4, .int .u32 x.f5] 25 (0, 0))) := ⟨fun z hz => (hz.block _ (by simp)).trans (World.alloc_heap_new _ _)⟩
  have HB1 := Aside0.mk (Below.refl (w0.alloc (.cells #[.int .u8 x.f0, .int .u8 x.f1, .int .u8 x.f2, .int .u8 x.f3, .int .i32 x.f4, .int .u32 x.f5] 25)).heap.size (w0.alloc (.cells #[.int .u8 x.f0, .int .u8 x.f1, .int .u8 x.f2, .int .u8 x.f3, .int .i32 x.f4, .int .u32 x.f5] 25)))
  obtain ⟨R0, hR0⟩ : ∃ b, rightX x 1 N M = b := ⟨_, rfl⟩
  have KF : Aside0 (∀ z : World, Calls Tryd.prog 11 #[.agg #[.int .u8 x.f0, .int .u8 x.f1, .int .u8 x.f2, .int .u8 x.f3, .int .i32 x.f4, .int .u32 x.f5], .int .i64 1, .int .i64 N, .int .i64 M] z fun e w' => e = .returned (.bool R0) ∧ Below z.heap.size z w') := ⟨fun z => by
    obtain ⟨h0, h1, h2, h3, h4, h5⟩ := HOK.out
    have h := right08_any x.f0.toNat x.f1.toNat x.f2.toNat x.f3.toNat x.f4 x.f5.toNat 1 N M (by omega) (by omega) h4 z
    rw [nat_of h0.1, nat_of h1.1, nat_of h2.1, nat_of h3.1, nat_of h5.1] at h
    rw [← hR0]; unfold rightX; exact h⟩
  have KR := Aside0.mk (fun (g : Nat) (z : World) (h : z.heap[g]? = _) => one_right x HOK.out g N M z h)
  rw [chkOk_one, hR0] at KR
  cases R0 with
  | false =>
    clear hR0
    go_enter Tryd.func3, Tryd.ntmps3
    go_wp2_with (first
      | (go_at_call 10; (with_reducible refine (awake_any _ (hT.below HB.out)).mono ?_); rintro e w1 ⟨rfl, hb⟩; replace HB := Aside0.mk (bel_t8 HB.out hb); replace HB1 := Aside0.mk (bel_t8 HB1.out hb); clear hb; have g0 : w1.cell? ⟨w0.heap.size, 0, none⟩ = some (.int .u8 x.f0) := blk_cell (HLG.out _ HB1.out) 0; have g1 : w1.cell? ⟨w0.heap.size, 1, none⟩ = some (.int .u8 x.f1) := blk_cell (HLG.out _ HB1.out) 1; have g2 : w1.cell? ⟨w0.heap.size, 2, none⟩ = some (.int .u8 x.f2) := blk_cell (HLG.out _ HB1.out) 2; have g3 : w1.cell? ⟨w0.heap.size, 3, none⟩ = some (.int .u8 x.f3) := blk_cell (HLG.out _ HB1.out) 3; have g4 : w1.cell? ⟨w0.heap.size, 4, none⟩ = some (.int .i32 x.f4) := blk_cell (HLG.out _ HB1.out) 4; have g5 : w1.cell? ⟨w0.heap.size, 5, none⟩ = some (.int .u32 x.f5) := blk_cell (HLG.out _ HB1.out) 5)
      | (go_at_call 12; refine (own1_any x _ _ (World.alloc_heap_new _ _)).mono ?_; rintro e w1 ⟨ad, c', rfl, ⟨d0, d1, d2, d3, d4, d5⟩, hb⟩; replace HB := Aside0.mk (bel_b HB.out _ hb); replace HB1 := Aside0.mk (bel_b HB1.out _ hb); clear hb; have g0 : w1.cell? ⟨w0.heap.size, 0, none⟩ = some (.int .u8 x.f0) := blk_cell (HLG.out _ HB1.out) 0; have g1 : w1.cell? ⟨w0.heap.size, 1, none⟩ = some (.int .u8 x.f1) := blk_cell (HLG.out _ HB1.out) 1; have g2 : w1.cell? ⟨w0.heap.size, 2, none⟩ = some (.int .u8 x.f2) := blk_cell (HLG.out _ HB1.out) 2; have g3 : w1.cell? ⟨w0.heap.size, 3, none⟩ = some (.int .u8 x.f3) := blk_cell (HLG.out _ HB1.out) 3; have g4 : w1.cell? ⟨w0.heap.size, 4, none⟩ = some (.int .i32 x.f4) := blk_cell (HLG.out _ HB1.out) 4; have g5 : w1.cell? ⟨w0.heap.size, 5, none⟩ = some (.int .u32 x.f5) := blk_cell (HLG.out _ HB1.out) 5)
      | (go_at_call 11; (with_reducible refine (KF.out _).mono ?_); rintro e w1 ⟨rfl, hb⟩; replace HB := Aside0.mk (bel_t8 HB.out hb); replace HB1 := Aside0.mk (bel_t8 HB1.out hb); clear hb; have g0 : w1.cell? ⟨w0.heap.size, 0, none⟩ = some (.int .u8 x.f0) := blk_cell (HLG.out _ HB1.out) 0; have g1 : w1.cell? ⟨w0.heap.size, 1, none⟩ = some (.int .u8 x.f1) := blk_cell (HLG.out _ HB1.out) 1; have g2 : w1.cell? ⟨w0.heap.size, 2, none⟩ = some (.int .u8 x.f2) := blk_cell (HLG.out _ HB1.out) 2; have g3 : w1.cell? ⟨w0.heap.size, 3, none⟩ = some (.int .u8 x.f3) := blk_cell (HLG.out _ HB1.out) 3; have g4 : w1.cell? ⟨w0.heap.size, 4, none⟩ = some (.int .i32 x.f4) := blk_cell (HLG.out _ HB1.out) 4; have g5 : w1.cell? ⟨w0.heap.size, 5, none⟩ = some (.int .u32 x.f5) := blk_cell (HLG.out _ HB1.out) 5)
      | (go_at_call 13; refine (KR.out _ _ (World.alloc_heap_new _ _)).mono ?_; rintro e w1 ⟨rfl, hb⟩; replace HB := Aside0.mk (bel_b HB.out _ hb); replace HB1 := Aside0.mk (bel_b HB1.out _ hb); clear hb; have g0 : w1.cell? ⟨w0.heap.size, 0, none⟩ = some (.int .u8 x.f0) := blk_cell (HLG.out _ HB1.out) 0; have g1 : w1.cell? ⟨w0.heap.size, 1, none⟩ = some (.int .u8 x.f1) := blk_cell (HLG.out _ HB1.out) 1; have g2 : w1.cell? ⟨w0.heap.size, 2, none⟩ = some (.int .u8 x.f2) := blk_cell (HLG.out _ HB1.out) 2; have g3 : w1.cell? ⟨w0.heap.size, 3, none⟩ = some (.int .u8 x.f3) := blk_cell (HLG.out _ HB1.out) 3; have g4 : w1.cell? ⟨w0.heap.size, 4, none⟩ = some (.int .i32 x.f4) := blk_cell (HLG.out _ HB1.out) 4; have g5 : w1.cell? ⟨w0.heap.size, 5, none⟩ = some (.int .u32 x.f5) := blk_cell (HLG.out _ HB1.out) 5)
      | (go_at_call 14; (with_reducible refine (KP.out _).mono ?_); rintro e w1 ⟨rfl, hb⟩; replace HB := Aside0.mk (bel_t8 HB.out hb); replace HB1 := Aside0.mk (bel_t8 HB1.out hb); clear hb; have g0 : w1.cell? ⟨w0.heap.size, 0, none⟩ = some (.int .u8 x.f0) := blk_cell (HLG.out _ HB1.out) 0; have g1 : w1.cell? ⟨w0.heap.size, 1, none⟩ = some (.int .u8 x.f1) := blk_cell (HLG.out _ HB1.out) 1; have g2 : w1.cell? ⟨w0.heap.size, 2, none⟩ = some (.int .u8 x.f2) := blk_cell (HLG.out _ HB1.out) 2; have g3 : w1.cell? ⟨w0.heap.size, 3, none⟩ = some (.int .u8 x.f3) := blk_cell (HLG.out _ HB1.out) 3; have g4 : w1.cell? ⟨w0.heap.size, 4, none⟩ = some (.int .i32 x.f4) := blk_cell (HLG.out _ HB1.out) 4; have g5 : w1.cell? ⟨w0.heap.size, 5, none⟩ = some (.int .u32 x.f5) := blk_cell (HLG.out _ HB1.out) 5))
    go_ret
    exact ⟨rfl, HB.out⟩
  | true =>
    have hop : x.f0.toNat < 26 := by
      by_cases h : x.f0.toNat < 26
      · exact h
      · unfold rightX rightB at hR0
        rw [decide_eq_false h, Bool.false_and] at hR0
        cases hR0
    obtain ⟨op, hope⟩ : ∃ op : Nat, x.f0.toNat = op := ⟨_, rfl⟩
    have KP := Aside0.mk (fun (z : World) => parts_any x.f0.toNat hop z)
    rw [nat_of hx0.1] at KP
    have hsz := part_size ⟨x.f0.toNat, hop⟩
    have UA := used_a ⟨x.f0.toNat, hop⟩
    have UB := used_b ⟨x.f0.toNat, hop⟩
    have UC := used_c ⟨x.f0.toNat, hop⟩
    have U24 := row_24 ⟨x.f0.toNat, hop⟩
    simp only [] at hsz UA UB UC U24
    obtain ⟨U, hU⟩ : ∃ U, partU x.f0.toNat = U := ⟨_, rfl⟩
    rw [hU] at KP hsz UA UB UC
    -- the three turned ones
    obtain ⟨z, hz⟩ : ∃ b, (r == 0) = b := ⟨_, rfl⟩
    obtain ⟨e8, he8⟩ : ∃ b, decide (r < 8) = b := ⟨_, rfl⟩
    have hRB : rightB x.f0.toNat x.f1.toNat x.f2.toNat x.f3.toNat x.f4 x.f5.toNat 1 N M = true := by unfold rightX at hR0; exact hR0
    have EA : rightX ⟨x.f0, r, x.f2, x.f3, x.f4, x.f5⟩ 1 N M = (z || (usedB U 65 U.size && e8)) := by
      unfold rightX
      rw [turn_a hRB, regB_int hr.1, hz, he8, UA]
    have EB : rightX ⟨x.f0, x.f1, r, x.f3, x.f4, x.f5⟩ 1 N M = (z || (usedB U 66 U.size && e8)) := by
      unfold rightX
      rw [turn_b hRB, regB_int hr.1, hz, he8, UB]
    have EC : x.f0 ≠ 24 → rightX ⟨x.f0, x.f1, x.f2, r, x.f4, x.f5⟩ 1 N M = (z || (usedB U 67 U.size && e8)) := by
      intro h
      unfold rightX
      rw [turn_c hRB (by omega), regB_int hr.1, hz, he8, UC (fun e => by have := U24.1 e; omega)]
    clear UA UB UC U24 hRB hR0 hU hope
    have okA : OkI ⟨x.f0, r, x.f2, x.f3, x.f4, x.f5⟩ := by obtain ⟨h0, h1, h2, h3, h4, h5⟩ := HOK.out; exact ⟨h0, hr, h2, h3, h4, h5⟩
    have okB : OkI ⟨x.f0, x.f1, r, x.f3, x.f4, x.f5⟩ := by obtain ⟨h0, h1, h2, h3, h4, h5⟩ := HOK.out; exact ⟨h0, h1, hr, h3, h4, h5⟩
    have okC : OkI ⟨x.f0, x.f1, x.f2, r, x.f4, x.f5⟩ := by obtain ⟨h0, h1, h2, h3, h4, h5⟩ := HOK.out; exact ⟨h0, h1, h2, hr, h4, h5⟩
    have KA := Aside0.mk (fun (g : Nat) (z : World) (h : z.heap[g]? = _) => one_right ⟨x.f0, r, x.f2, x.f3, x.f4, x.f5⟩ okA g N M z h)
    have KB := Aside0.mk (fun (g : Nat) (z : World) (h : z.heap[g]? = _) => one_right ⟨x.f0, x.f1, r, x.f3, x.f4, x.f5⟩ okB g N M z h)
    have KC := Aside0.mk (fun (g : Nat) (z : World) (h : z.heap[g]? = _) => one_right ⟨x.f0, x.f1, x.f2, r, x.f4, x.f5⟩ okC g N M z h)
    rw [chkOk_one, EA] at KA
    rw [chkOk_one, EB] at KB
    rw [chkOk_one] at KC
    have HEC := Aside0.mk EC
    have HZ := Aside0.mk hz
    clear EA EB EC okA okB okC
    go_enter Tryd.func3, Tryd.ntmps3
    go_wp2_with (first
      | (go_at_call 10; (with_reducible refine (awake_any _ (hT.below HB.out)).mono ?_); rintro e w1 ⟨rfl, hb⟩; replace HB := Aside0.mk (bel_t8 HB.out hb); replace HB1 := Aside0.mk (bel_t8 HB1.out hb); clear hb; have g0 : w1.cell? ⟨w0.heap.size, 0, none⟩ = some (.int .u8 x.f0) := blk_cell (HLG.out _ HB1.out) 0; have g1 : w1.cell? ⟨w0.heap.size, 1, none⟩ = some (.int .u8 x.f1) := blk_cell (HLG.out _ HB1.out) 1; have g2 : w1.cell? ⟨w0.heap.size, 2, none⟩ = some (.int .u8 x.f2) := blk_cell (HLG.out _ HB1.out) 2; have g3 : w1.cell? ⟨w0.heap.size, 3, none⟩ = some (.int .u8 x.f3) := blk_cell (HLG.out _ HB1.out) 3; have g4 : w1.cell? ⟨w0.heap.size, 4, none⟩ = some (.int .i32 x.f4) := blk_cell (HLG.out _ HB1.out) 4; have g5 : w1.cell? ⟨w0.heap.size, 5, none⟩ = some (.int .u32 x.f5) := blk_cell (HLG.out _ HB1.out) 5)
      | (go_at_call 12; refine (own1_any x _ _ (World.alloc_heap_new _ _)).mono ?_; rintro e w1 ⟨ad, c', rfl, ⟨d0, d1, d2, d3, d4, d5⟩, hb⟩; replace HB := Aside0.mk (bel_b HB.out _ hb); replace HB1 := Aside0.mk (bel_b HB1.out _ hb); clear hb; have g0 : w1.cell? ⟨w0.heap.size, 0, none⟩ = some (.int .u8 x.f0) := blk_cell (HLG.out _ HB1.out) 0; have g1 : w1.cell? ⟨w0.heap.size, 1, none⟩ = some (.int .u8 x.f1) := blk_cell (HLG.out _ HB1.out) 1; have g2 : w1.cell? ⟨w0.heap.size, 2, none⟩ = some (.int .u8 x.f2) := blk_cell (HLG.out _ HB1.out) 2; have g3 : w1.cell? ⟨w0.heap.size, 3, none⟩ = some (.int .u8 x.f3) := blk_cell (HLG.out _ HB1.out) 3; have g4 : w1.cell? ⟨w0.heap.size, 4, none⟩ = some (.int .i32 x.f4) := blk_cell (HLG.out _ HB1.out) 4; have g5 : w1.cell? ⟨w0.heap.size, 5, none⟩ = some (.int .u32 x.f5) := blk_cell (HLG.out _ HB1.out) 5)
      | (go_at_call 11; (with_reducible refine (KF.out _).mono ?_); rintro e w1 ⟨rfl, hb⟩; replace HB := Aside0.mk (bel_t8 HB.out hb); replace HB1 := Aside0.mk (bel_t8 HB1.out hb); clear hb; have g0 : w1.cell? ⟨w0.heap.size, 0, none⟩ = some (.int .u8 x.f0) := blk_cell (HLG.out _ HB1.out) 0; have g1 : w1.cell? ⟨w0.heap.size, 1, none⟩ = some (.int .u8 x.f1) := blk_cell (HLG.out _ HB1.out) 1; have g2 : w1.cell? ⟨w0.heap.size, 2, none⟩ = some (.int .u8 x.f2) := blk_cell (HLG.out _ HB1.out) 2; have g3 : w1.cell? ⟨w0.heap.size, 3, none⟩ = some (.int .u8 x.f3) := blk_cell (HLG.out _ HB1.out) 3; have g4 : w1.cell? ⟨w0.heap.size, 4, none⟩ = some (.int .i32 x.f4) := blk_cell (HLG.out _ HB1.out) 4; have g5 : w1.cell? ⟨w0.heap.size, 5, none⟩ = some (.int .u32 x.f5) := blk_cell (HLG.out _ HB1.out) 5)
      | (go_at_call 13; refine (KR.out _ _ (World.alloc_heap_new _ _)).mono ?_; rintro e w1 ⟨rfl, hb⟩; replace HB := Aside0.mk (bel_b HB.out _ hb); replace HB1 := Aside0.mk (bel_b HB1.out _ hb); clear hb; have g0 : w1.cell? ⟨w0.heap.size, 0, none⟩ = some (.int .u8 x.f0) := blk_cell (HLG.out _ HB1.out) 0; have g1 : w1.cell? ⟨w0.heap.size, 1, none⟩ = some (.int .u8 x.f1) := blk_cell (HLG.out _ HB1.out) 1; have g2 : w1.cell? ⟨w0.heap.size, 2, none⟩ = some (.int .u8 x.f2) := blk_cell (HLG.out _ HB1.out) 2; have g3 : w1.cell? ⟨w0.heap.size, 3, none⟩ = some (.int .u8 x.f3) := blk_cell (HLG.out _ HB1.out) 3; have g4 : w1.cell? ⟨w0.heap.size, 4, none⟩ = some (.int .i32 x.f4) := blk_cell (HLG.out _ HB1.out) 4; have g5 : w1.cell? ⟨w0.heap.size, 5, none⟩ = some (.int .u32 x.f5) := blk_cell (HLG.out _ HB1.out) 5)
      | (go_at_call 14; (with_reducible refine (KP.out _).mono ?_); rintro e w1 ⟨rfl, hb⟩; replace HB := Aside0.mk (bel_t8 HB.out hb); replace HB1 := Aside0.mk (bel_t8 HB1.out hb); clear hb; have g0 : w1.cell? ⟨w0.heap.size, 0, none⟩ = some (.int .u8 x.f0) := blk_cell (HLG.out _ HB1.out) 0; have g1 : w1.cell? ⟨w0.heap.size, 1, none⟩ = some (.int .u8 x.f1) := blk_cell (HLG.out _ HB1.out) 1; have g2 : w1.cell? ⟨w0.heap.size, 2, none⟩ = some (.int .u8 x.f2) := blk_cell (HLG.out _ HB1.out) 2; have g3 : w1.cell? ⟨w0.heap.size, 3, none⟩ = some (.int .u8 x.f3) := blk_cell (HLG.out _ HB1.out) 3; have g4 : w1.cell? ⟨w0.heap.size, 4, none⟩ = some (.int .i32 x.f4) := blk_cell (HLG.out _ HB1.out) 4; have g5 : w1.cell? ⟨w0.heap.size, 5, none⟩ = some (.int .u32 x.f5) := blk_cell (HLG.out _ HB1.out) 5))
    have HBL := Aside0.mk (below_alloc HB.out (.cells #[.int .u8 65, .int .u8 66, .int .u8 67] 5))
    have HLL : Aside0 (∀ z, Below (w1.alloc (.cells #[.int .u8 65, .int .u8 66, .int .u8 67] 5)).heap.size (w1.alloc (.cells #[.int .u8 65, .int .u8 66, .int .u8 67] 5)) z → z.heap[w1.heap.size]? = some (.cells #[.int .u8 65, .int .u8 66, .int .u8 67] 5 (0, 0)) ∧ z.heap[w0.heap.size]? = some (.cells #[.int .u8 x.f0, .int .u8 x.f1, .int .u8 x.f2, .int .u8 x.f3, .int .i32 x.f4, .int .u32 x.f5] 25 (0, 0))) := ⟨fun z hz => ⟨(hz.block _ (by simp)).trans (World.alloc_heap_new _ _), HLG.out z (bel_t8 (below_alloc HB1.out _) hz)⟩⟩
    clear HLG HB1 g0 g1 g2 g3 g4 g5 KF KR KP d0 d1 d2 d3 d4 d5
    generalize hWl : (w1.alloc (.cells #[.int .u8 65, .int .u8 66, .int .u8 67] 5)) = Wl at *
    generalize hgl : w1.heap.size = gl at *
    clear hWl hgl
    go_loopw [57] (fun v57 wr => ∃ k : Nat, k ≤ 3 ∧ v57 = .int .i64 (k : Int) ∧ Aside0 (Below w0.heap.size w0 wr ∧ Below Wl.heap.size Wl wr)) (fun v57 _ => (3 - intV v57).toNat)
    case atStart => exact ⟨0, by omega, rfl, ⟨HBL.out, Below.refl _ _⟩⟩
    case round =>
      obtain ⟨k, hk, rfl, HBR⟩ := hrel
      obtain ⟨hl, hb⟩ := HLL.out wr HBR.out.2
      have g0 : wr.cell? ⟨w0.heap.size, 0, none⟩ = some (.int .u8 x.f0) := blk_cell hb 0
      have g1 : wr.cell? ⟨w0.heap.size, 1, none⟩ = some (.int .u8 x.f1) := blk_cell hb 1
      have g2 : wr.cell? ⟨w0.heap.size, 2, none⟩ = some (.int .u8 x.f2) := blk_cell hb 2
      have g3 : wr.cell? ⟨w0.heap.size, 3, none⟩ = some (.int .u8 x.f3) := blk_cell hb 3
      have g4 : wr.cell? ⟨w0.heap.size, 4, none⟩ = some (.int .i32 x.f4) := blk_cell hb 4
      have g5 : wr.cell? ⟨w0.heap.size, 5, none⟩ = some (.int .u32 x.f5) := blk_cell hb 5
      have hk4 : k = 0 ∨ k = 1 ∨ k = 2 ∨ k = 3 := by omega
      rcases hk4 with rfl | rfl | rfl | rfl
      · have l0 : wr.cell? ⟨gl, 0, none⟩ = some (.int .u8 65) := blk_cell hl 0
        clear hl hb
        have HP := Aside0.mk ((((Hp.start w0).call HBR.out.1).alloc (.cells #[.int .u8 x.f0, .int .u8 r, .int .u8 x.f2, .int .u8 x.f3, .int .i32 x.f4, .int .u32 x.f5] 25)).box (.cells #[.pointer (some ⟨wr.heap.size, 1, none⟩), .pointer (some ⟨wr.heap.size, 2, none⟩), .pointer (some ⟨wr.heap.size, 3, none⟩)] 37))
        have HQ := Aside0.mk (below_alloc (below_alloc HBR.out.2 (.cells #[.int .u8 x.f0, .int .u8 r, .int .u8 x.f2, .int .u8 x.f3, .int .i32 x.f4, .int .u32 x.f5] 25)) (.cells #[.pointer (some ⟨wr.heap.size, 1, none⟩), .pointer (some ⟨wr.heap.size, 2, none⟩), .pointer (some ⟨wr.heap.size, 3, none⟩)] 37))
        go_wp2_with fail
        generalize hgd : wr.heap.size = gd at *
        clear hgd
        generalize ((wr.alloc (.cells #[.int .u8 x.f0, .int .u8 r, .int .u8 x.f2, .int .u8 x.f3, .int .i32 x.f4, .int .u32 x.f5] 25)).alloc (.cells #[.pointer (some ⟨gd, 1, none⟩), .pointer (some ⟨gd, 2, none⟩), .pointer (some ⟨gd, 3, none⟩)] 37)) = W3 at *
        go_loopw [16, 74] (fun v16 v74 wq => ∃ i : Nat, i ≤ U.size ∧ v74 = .int .i64 (i : Int) ∧ v16 = .bool (usedB U 65 i) ∧ wq = W3) (fun _ v74 _ => ((U.size : Int) - intV v74).toNat)
        case atStart => exact ⟨0, by omega, rfl, by rw [usedB_zero], rfl⟩
        case round =>
          obtain ⟨i, hi, rfl, rfl, rfl⟩ := hrel
          by_cases h : i < U.size
          · have hbt := bt_at U (i : Int)
            rw [Int.toNat_natCast] at hbt
            have hus := usedB_succ U 65 i
            generalize usedB U 65 i = ub at hus ⊢
            have HUS := Aside0.mk hus
            clear hus
            cases ub with
            | true =>
              go_wp2_with fail
              exact ⟨⟨i + 1, by omega, by congr 1, by rw [HUS.out]; rfl, trivial⟩, by simp only [intV]; omega⟩
            | false =>
              go_wp2_with fail
              exact ⟨⟨i + 1, by omega, by congr 1, by rw [HUS.out, Bool.false_or], trivial⟩, by simp only [intV]; omega⟩
          · obtain rfl : i = U.size := by omega
            have c0 : wr.cell? ⟨gd, 0, none⟩ = some (.int .u8 x.f0) := blk_cell (HP.out.get (i := 0) rfl) 0
            have c1 : wr.cell? ⟨gd, 1, none⟩ = some (.int .u8 r) := blk_cell (HP.out.get (i := 0) rfl) 1
            have c2 : wr.cell? ⟨gd, 2, none⟩ = some (.int .u8 x.f2) := blk_cell (HP.out.get (i := 0) rfl) 2
            have c3 : wr.cell? ⟨gd, 3, none⟩ = some (.int .u8 x.f3) := blk_cell (HP.out.get (i := 0) rfl) 3
            have c4 : wr.cell? ⟨gd, 4, none⟩ = some (.int .i32 x.f4) := blk_cell (HP.out.get (i := 0) rfl) 4
            have c5 : wr.cell? ⟨gd, 5, none⟩ = some (.int .u32 x.f5) := blk_cell (HP.out.get (i := 0) rfl) 5
            have d0 : wr.cell? ⟨w0.heap.size, 0, none⟩ = some (.int .u8 x.f0) := blk_cell (HLL.out wr HQ.out).2 0
            generalize usedB U 65 U.size = ub at *
            cases z <;> cases ub <;> cases e8
            all_goals (
              go_wp2_with (first
                | (go_at_call 13; refine (KA.out _ _ (World.alloc_heap_new _ _)).mono ?_; rintro e w5 ⟨rfl, hb⟩; replace HP := Aside0.mk ((HP.out.box (.cells #[.int .u8 x.f0, .int .u8 r, .int .u8 x.f2, .int .u8 x.f3, .int .i32 x.f4, .int .u32 x.f5] 25)).call hb); replace HQ := Aside0.mk (bel_b HQ.out _ hb); clear hb))
              all_goals exact ⟨⟨1, by omega, rfl, ⟨HP.out.bel, HQ.out⟩⟩, by simp only [intV]; omega⟩)
      · have l0 : wr.cell? ⟨gl, 1, none⟩ = some (.int .u8 66) := blk_cell hl 1
        clear hl hb
        have HP := Aside0.mk ((((Hp.start w0).call HBR.out.1).alloc (.cells #[.int .u8 x.f0, .int .u8 x.f1, .int .u8 r, .int .u8 x.f3, .int .i32 x.f4, .int .u32 x.f5] 25)).box (.cells #[.pointer (some ⟨wr.heap.size, 1, none⟩), .pointer (some ⟨wr.heap.size, 2, none⟩), .pointer (some ⟨wr.heap.size, 3, none⟩)] 37))
        have HQ := Aside0.mk (below_alloc (below_alloc HBR.out.2 (.cells #[.int .u8 x.f0, .int .u8 x.f1, .int .u8 r, .int .u8 x.f3, .int .i32 x.f4, .int .u32 x.f5] 25)) (.cells #[.pointer (some ⟨wr.heap.size, 1, none⟩), .pointer (some ⟨wr.heap.size, 2, none⟩), .pointer (some ⟨wr.heap.size, 3, none⟩)] 37))
        go_wp2_with fail
        generalize hgd : wr.heap.size = gd at *
        clear hgd
        generalize ((wr.alloc (.cells #[.int .u8 x.f0, .int .u8 x.f1, .int .u8 r, .int .u8 x.f3, .int .i32 x.f4, .int .u32 x.f5] 25)).alloc (.cells #[.pointer (some ⟨gd, 1, none⟩), .pointer (some ⟨gd, 2, none⟩), .pointer (some ⟨gd, 3, none⟩)] 37)) = W3 at *
        go_loopw [16, 74] (fun v16 v74 wq => ∃ i : Nat, i ≤ U.size ∧ v74 = .int .i64 (i : Int) ∧ v16 = .bool (usedB U 66 i) ∧ wq = W3) (fun _ v74 _ => ((U.size : Int) - intV v74).toNat)
        case atStart => exact ⟨0, by omega, rfl, by rw [usedB_zero], rfl⟩
        case round =>
          obtain ⟨i, hi, rfl, rfl, rfl⟩ := hrel
          by_cases h : i < U.size
          · have hbt := bt_at U (i : Int)
            rw [Int.toNat_natCast] at hbt
            have hus := usedB_succ U 66 i
            generalize usedB U 66 i = ub at hus ⊢
            have HUS := Aside0.mk hus
            clear hus
            cases ub with
            | true =>
              go_wp2_with fail
              exact ⟨⟨i + 1, by omega, by congr 1, by rw [HUS.out]; rfl, trivial⟩, by simp only [intV]; omega⟩
            | false =>
              go_wp2_with fail
              exact ⟨⟨i + 1, by omega, by congr 1, by rw [HUS.out, Bool.false_or], trivial⟩, by simp only [intV]; omega⟩
          · obtain rfl : i = U.size := by omega
            have c0 : wr.cell? ⟨gd, 0, none⟩ = some (.int .u8 x.f0) := blk_cell (HP.out.get (i := 0) rfl) 0
            have c1 : wr.cell? ⟨gd, 1, none⟩ = some (.int .u8 x.f1) := blk_cell (HP.out.get (i := 0) rfl) 1
            have c2 : wr.cell? ⟨gd, 2, none⟩ = some (.int .u8 r) := blk_cell (HP.out.get (i := 0) rfl) 2
            have c3 : wr.cell? ⟨gd, 3, none⟩ = some (.int .u8 x.f3) := blk_cell (HP.out.get (i := 0) rfl) 3
            have c4 : wr.cell? ⟨gd, 4, none⟩ = some (.int .i32 x.f4) := blk_cell (HP.out.get (i := 0) rfl) 4
            have c5 : wr.cell? ⟨gd, 5, none⟩ = some (.int .u32 x.f5) := blk_cell (HP.out.get (i := 0) rfl) 5
            have d0 : wr.cell? ⟨w0.heap.size, 0, none⟩ = some (.int .u8 x.f0) := blk_cell (HLL.out wr HQ.out).2 0
            generalize usedB U 66 U.size = ub at *
            cases z <;> cases ub <;> cases e8
            all_goals (
              go_wp2_with (first
                | (go_at_call 13; refine (KB.out _ _ (World.alloc_heap_new _ _)).mono ?_; rintro e w5 ⟨rfl, hb⟩; replace HP := Aside0.mk ((HP.out.box (.cells #[.int .u8 x.f0, .int .u8 x.f1, .int .u8 r, .int .u8 x.f3, .int .i32 x.f4, .int .u32 x.f5] 25)).call hb); replace HQ := Aside0.mk (bel_b HQ.out _ hb); clear hb))
              all_goals exact ⟨⟨2, by omega, rfl, ⟨HP.out.bel, HQ.out⟩⟩, by simp only [intV]; omega⟩)
      · have l0 : wr.cell? ⟨gl, 2, none⟩ = some (.int .u8 67) := blk_cell hl 2
        clear hl hb
        have HP := Aside0.mk ((((Hp.start w0).call HBR.out.1).alloc (.cells #[.int .u8 x.f0, .int .u8 x.f1, .int .u8 x.f2, .int .u8 r, .int .i32 x.f4, .int .u32 x.f5] 25)).box (.cells #[.pointer (some ⟨wr.heap.size, 1, none⟩), .pointer (some ⟨wr.heap.size, 2, none⟩), .pointer (some ⟨wr.heap.size, 3, none⟩)] 37))
        have HQ := Aside0.mk (below_alloc (below_alloc HBR.out.2 (.cells #[.int .u8 x.f0, .int .u8 x.f1, .int .u8 x.f2, .int .u8 r, .int .i32 x.f4, .int .u32 x.f5] 25)) (.cells #[.pointer (some ⟨wr.heap.size, 1, none⟩), .pointer (some ⟨wr.heap.size, 2, none⟩), .pointer (some ⟨wr.heap.size, 3, none⟩)] 37))
        go_wp2_with fail
        generalize hgd : wr.heap.size = gd at *
        clear hgd
        generalize ((wr.alloc (.cells #[.int .u8 x.f0, .int .u8 x.f1, .int .u8 x.f2, .int .u8 r, .int .i32 x.f4, .int .u32 x.f5] 25)).alloc (.cells #[.pointer (some ⟨gd, 1, none⟩), .pointer (some ⟨gd, 2, none⟩), .pointer (some ⟨gd, 3, none⟩)] 37)) = W3 at *
        go_loopw [16, 74] (fun v16 v74 wq => ∃ i : Nat, i ≤ U.size ∧ v74 = .int .i64 (i : Int) ∧ v16 = .bool (usedB U 67 i) ∧ wq = W3) (fun _ v74 _ => ((U.size : Int) - intV v74).toNat)
        case atStart => exact ⟨0, by omega, rfl, by rw [usedB_zero], rfl⟩
        case round =>
          obtain ⟨i, hi, rfl, rfl, rfl⟩ := hrel
          by_cases h : i < U.size
          · have hbt := bt_at U (i : Int)
            rw [Int.toNat_natCast] at hbt
            have hus := usedB_succ U 67 i
            generalize usedB U 67 i = ub at hus ⊢
            have HUS := Aside0.mk hus
            clear hus
            cases ub with
            | true =>
              go_wp2_with fail
              exact ⟨⟨i + 1, by omega, by congr 1, by rw [HUS.out]; rfl, trivial⟩, by simp only [intV]; omega⟩
            | false =>
              go_wp2_with fail
              exact ⟨⟨i + 1, by omega, by congr 1, by rw [HUS.out, Bool.false_or], trivial⟩, by simp only [intV]; omega⟩
          · obtain rfl : i = U.size := by omega
            have c0 : wr.cell? ⟨gd, 0, none⟩ = some (.int .u8 x.f0) := blk_cell (HP.out.get (i := 0) rfl) 0
            have c1 : wr.cell? ⟨gd, 1, none⟩ = some (.int .u8 x.f1) := blk_cell (HP.out.get (i := 0) rfl) 1
            have c2 : wr.cell? ⟨gd, 2, none⟩ = some (.int .u8 x.f2) := blk_cell (HP.out.get (i := 0) rfl) 2
            have c3 : wr.cell? ⟨gd, 3, none⟩ = some (.int .u8 r) := blk_cell (HP.out.get (i := 0) rfl) 3
            have c4 : wr.cell? ⟨gd, 4, none⟩ = some (.int .i32 x.f4) := blk_cell (HP.out.get (i := 0) rfl) 4
            have c5 : wr.cell? ⟨gd, 5, none⟩ = some (.int .u32 x.f5) := blk_cell (HP.out.get (i := 0) rfl) 5
            have d0 : wr.cell? ⟨w0.heap.size, 0, none⟩ = some (.int .u8 x.f0) := blk_cell (HLL.out wr HQ.out).2 0
            generalize usedB U 67 U.size = ub at *
            by_cases h24 : x.f0 = 24
            · have h24b : (x.f0 == 24) = true := beq_iff_eq.2 h24
              go_wp2_with fail
              exact ⟨⟨3, by omega, rfl, ⟨HP.out.bel, HQ.out⟩⟩, by simp only [intV]; omega⟩
            · have h24b : (x.f0 == 24) = false := beq_eq_false_iff_ne.2 h24
              rw [HEC.out h24] at KC
              clear h24
              cases z <;> cases ub <;> cases e8
              all_goals (
                go_wp2_with (first
                  | (go_at_call 13; refine (KC.out _ _ (World.alloc_heap_new _ _)).mono ?_; rintro e w5 ⟨rfl, hb⟩; replace HP := Aside0.mk ((HP.out.box (.cells #[.int .u8 x.f0, .int .u8 x.f1, .int .u8 x.f2, .int .u8 r, .int .i32 x.f4, .int .u32 x.f5] 25)).call hb); replace HQ := Aside0.mk (bel_b HQ.out _ hb); clear hb))
                all_goals exact ⟨⟨3, by omega, rfl, ⟨HP.out.bel, HQ.out⟩⟩, by simp only [intV]; omega⟩)
      · clear hl hb
        go_wp2_with fail
        go_ret
        exact ⟨rfl, HBR.out.1⟩
end Go.Proofs.YthimlgkegobaeaaDoor
