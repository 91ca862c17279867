/- CodeOthers: the walk. -/
import Derived.Test.YthimlgkegobaeaaDoorCg
import Derived.OpenShut
namespace Go.Proofs.YthimlgkegobaeaaDoor
open Go.RowKit Go.Shelf Go.Proofs.YthimlgkegobaeaaDoorW.PrintWords Go.Proofs.YthimlgkegobaeaaDoorW.PrintLast Go.Proofs.YthimlgkegobaeaaDoorW.PrintMore
set_option linter.unusedVariables false
set_option linter.unusedSimpArgs false

/-- What the argument's shape gives. -/
def OkW (x : S25) : Prop := (Lit.int .u8 x.f0).wf = true ∧ (Lit.int .u8 x.f1).wf = true ∧ (Lit.int .u8 x.f2).wf = true ∧ (Lit.int .u8 x.f3).wf = true ∧ (Lit.int .i32 x.f4).wf = true ∧ (Lit.int .u32 x.f5).wf = true
theorem OkW.ok {x : S25} (h : OkW x) : OkI x := by
  obtain ⟨h0, h1, h2, h3, h4, h5⟩ := h
  have b0 := bounds_u8 h0; have b1 := bounds_u8 h1; have b2 := bounds_u8 h2; have b3 := bounds_u8 h3; have b4 := bounds_i32 h4; have b5 := bounds_u32 h5
  unfold OkI
  omega
/-- Text, of an instruction. -/
def textX (x : S25) : ByteArray := textC x.f0.toNat x.f1.toNat x.f2.toNat x.f3.toNat x.f4 x.f5.toNat
theorem textX_any (x : S25) (hx : OkI x) (w : World) (hT : CTab w) :
    Calls Tryd.prog 15 #[.agg #[.int .u8 x.f0, .int .u8 x.f1, .int .u8 x.f2, .int .u8 x.f3, .int .i32 x.f4, .int .u32 x.f5]] w fun e w' => e = .returned (.string (textX x)) ∧ Below w.heap.size w w' := by
  obtain ⟨h0, h1, h2, h3, h4, h5⟩ := hx
  have h := text08_any x.f0.toNat x.f1.toNat x.f2.toNat x.f3.toNat x.f4 x.f5.toNat (by omega) (by omega) (by omega) (by omega) h4 (by omega) w hT
  rw [nat_of h0.1, nat_of h1.1, nat_of h2.1, nat_of h3.1, nat_of h5.1] at h
  exact h
theorem word_eq : ∀ a b : Fin 26, ((wordN a.val).toList == (wordN b.val).toList) = decide (a = b) := by decide +kernel
theorem bel_b {w W w' : World} (h : Below w.heap.size w W) (o : Obj) (hb : Below (W.alloc o).heap.size (W.alloc o) w') : Below w.heap.size w w' := bel_t8 (below_alloc h o) hb
attribute [local irreducible] wordN textX chkOk
set_option maxHeartbeats 8000000 in
set_option maxRecDepth 100000 in
theorem others_walk (x : S25) (a b : Int) (w0 : World) (hT : CTab w0) (hw : OkW x) (ha : 0 ≤ a ∧ a < 256) (hb0 : 0 ≤ b ∧ b < 256) :
    Calls Tryd.prog 4 #[.agg #[.int .u8 x.f0, .int .u8 x.f1, .int .u8 x.f2, .int .u8 x.f3, .int .i32 x.f4, .int .u32 x.f5], .int .u8 a, .int .u8 b] w0 fun e w' => e = .returned (.bool true) ∧ Below w0.heap.size w0 w' := by
  have hok := hw.ok
  have hx0 := hok.1
  obtain ⟨p, hp⟩ : ∃ p : Nat, a % 26 = (p : Int) := ⟨(a % 26).toNat, by omega⟩
  obtain ⟨q, hq⟩ : ∃ q : Nat, b % 26 = (q : Int) := ⟨(b % 26).toNat, by omega⟩
  have hp26 : p < 26 := by omega
  have hq26 : q < 26 := by omega
  have e1 := word_eq ⟨p, hp26⟩ ⟨q, hq26⟩
  have e2 := word_ne2 p hp26
  have hpq : ((p : Int) == (q : Int)) = decide ((⟨p, hp26⟩ : Fin 26) = ⟨q, hq26⟩) := by
    by_cases e : p = q
    · subst e; simp
    · rw [decide_eq_false (by simpa using e)]; exact beq_eq_false_iff_ne.2 (by omega)
  rw [← hpq] at e1
  clear hpq
  simp only [] at e1 e2
  obtain ⟨bo, hbo⟩ : ∃ bo, ((p : Int) == (q : Int)) = bo := ⟨_, rfl⟩
  rw [hbo] at e1
  have KW := fun (n : Nat) (hn : n < 256) => Aside0.mk (fun (z : World) (h : CTab z) => word_any n hn z h)
  have KP := KW p (by omega)
  have KQ := KW q (by omega)
  have HB := Aside0.mk (below_alloc (Below.refl w0.heap.size w0) (.cells #[.int .u8 x.f0, .int .u8 x.f1, .int .u8 x.f2, .int .u8 x.f3, .int .i32 x.f4, .int .u32 x.f5] 25))
  have HLG : Aside0 (∀ z, Below (w0.alloc (.cells #[.int .u8 x.f0, .int .u8 x.f1, .int .u8 x.f2, .int .u8 x.f3, .int .i32 x.f4, .int .u32 x.f5] 25)).heap.size (w0.alloc (.cells #[.int .u8 x.f0, .int .u8 x.f1, .int .u8 x.f2, .int .u8 x.f3, .int .i32 x.f4, .int .u32 x.f5] 25)) z → z.heap[w0.heap.size]? = some (.cells #[.int .u8 x.f0, .int .u8 x.f1, .int .u8 x.f2, .int .u8 x.f3, .int .i32 x.f4, .int .u32 x.f5] 25 (0, 0))) := ⟨fun z hz => (hz.block _ (by simp)).trans (World.alloc_heap_new _ _)⟩
  have HB1 := Aside0.mk (Below.refl (w0.alloc (.cells #[.int .u8 x.f0, .int .u8 x.f1, .int .u8 x.f2, .int .u8 x.f3, .int .i32 x.f4, .int .u32 x.f5] 25)).heap.size (w0.alloc (.cells #[.int .u8 x.f0, .int .u8 x.f1, .int .u8 x.f2, .int .u8 x.f3, .int .i32 x.f4, .int .u32 x.f5] 25)))
  have HOK := Aside0.mk hok
  clear hok hw
  by_cases h26 : 25 < x.f0
  · have hcr : chkOk [x] 48 6 = false := by rw [chkOk_one]; unfold rightX rightB; rw [decide_eq_false (by omega), Bool.false_and]
    have htx : textX x = ⟨#[]⟩ := by unfold textX textC; rw [if_neg (by omega)]
    have hwx : wordN x.f0.toNat = ⟨#[]⟩ := word_no _ (by omega)
    have KR := Aside0.mk (fun (g : Nat) (z : World) (h : z.heap[g]? = _) => one_right x HOK.out g 48 6 z h)
    rw [hcr] at KR
    have KT := Aside0.mk (fun (z : World) (h : CTab z) => textX_any x HOK.out z h)
    rw [htx] at KT
    have KX := KW x.f0.toNat (by omega)
    rw [hwx, nat_of hx0.1] at KX
    clear hcr htx hwx KW
    go_enter Tryd.func4, Tryd.ntmps4
    go_wp2_with (first
      | (go_at_call 10; (with_reducible refine (awake_any _ (hT.below HB.out)).mono ?_); rintro e w1 ⟨rfl, hb⟩; replace HB := Aside0.mk (bel_t8 HB.out hb); replace HB1 := Aside0.mk (bel_t8 HB1.out hb); clear hb; have g0 : w1.cell? ⟨w0.heap.size, 0, none⟩ = some (.int .u8 x.f0) := blk_cell (HLG.out _ HB1.out) 0; have g1 : w1.cell? ⟨w0.heap.size, 1, none⟩ = some (.int .u8 x.f1) := blk_cell (HLG.out _ HB1.out) 1; have g2 : w1.cell? ⟨w0.heap.size, 2, none⟩ = some (.int .u8 x.f2) := blk_cell (HLG.out _ HB1.out) 2; have g3 : w1.cell? ⟨w0.heap.size, 3, none⟩ = some (.int .u8 x.f3) := blk_cell (HLG.out _ HB1.out) 3; have g4 : w1.cell? ⟨w0.heap.size, 4, none⟩ = some (.int .i32 x.f4) := blk_cell (HLG.out _ HB1.out) 4; have g5 : w1.cell? ⟨w0.heap.size, 5, none⟩ = some (.int .u32 x.f5) := blk_cell (HLG.out _ HB1.out) 5)
      | (go_at_call 13; refine (KR.out _ _ (World.alloc_heap_new _ _)).mono ?_; rintro e w1 ⟨rfl, hb⟩; replace HB := Aside0.mk (bel_b HB.out _ hb); replace HB1 := Aside0.mk (bel_b HB1.out _ hb); clear hb; have g0 : w1.cell? ⟨w0.heap.size, 0, none⟩ = some (.int .u8 x.f0) := blk_cell (HLG.out _ HB1.out) 0; have g1 : w1.cell? ⟨w0.heap.size, 1, none⟩ = some (.int .u8 x.f1) := blk_cell (HLG.out _ HB1.out) 1; have g2 : w1.cell? ⟨w0.heap.size, 2, none⟩ = some (.int .u8 x.f2) := blk_cell (HLG.out _ HB1.out) 2; have g3 : w1.cell? ⟨w0.heap.size, 3, none⟩ = some (.int .u8 x.f3) := blk_cell (HLG.out _ HB1.out) 3; have g4 : w1.cell? ⟨w0.heap.size, 4, none⟩ = some (.int .i32 x.f4) := blk_cell (HLG.out _ HB1.out) 4; have g5 : w1.cell? ⟨w0.heap.size, 5, none⟩ = some (.int .u32 x.f5) := blk_cell (HLG.out _ HB1.out) 5)
      | (go_at_call 15; refine (KT.out _ (hT.below HB.out)).mono ?_; rintro e w1 ⟨rfl, hb⟩; replace HB := Aside0.mk (bel_t8 HB.out hb); replace HB1 := Aside0.mk (bel_t8 HB1.out hb); clear hb; have g0 : w1.cell? ⟨w0.heap.size, 0, none⟩ = some (.int .u8 x.f0) := blk_cell (HLG.out _ HB1.out) 0)
      | (go_at_call 16; (with_reducible refine (KX.out _ (hT.below HB.out)).mono ?_); rintro e w1 ⟨rfl, hb⟩; replace HB := Aside0.mk (bel_t8 HB.out hb); clear hb)
      | (go_at_call 16; (with_reducible refine (KP.out _ (hT.below HB.out)).mono ?_); rintro e w1 ⟨rfl, hb⟩; replace HB := Aside0.mk (bel_t8 HB.out hb); clear hb)
      | (go_at_call 16; (with_reducible refine (KQ.out _ (hT.below HB.out)).mono ?_); rintro e w1 ⟨rfl, hb⟩; replace HB := Aside0.mk (bel_t8 HB.out hb); clear hb))
    go_ret
    exact ⟨rfl, HB.out⟩
  · have hdx : decide (25 < x.f0) = false := decide_eq_false h26
    go_enter Tryd.func4, Tryd.ntmps4
    go_wp2_with (first
      | (go_at_call 10; (with_reducible refine (awake_any _ (hT.below HB.out)).mono ?_); rintro e w1 ⟨rfl, hb⟩; replace HB := Aside0.mk (bel_t8 HB.out hb); replace HB1 := Aside0.mk (bel_t8 HB1.out hb); clear hb; have g0 : w1.cell? ⟨w0.heap.size, 0, none⟩ = some (.int .u8 x.f0) := blk_cell (HLG.out _ HB1.out) 0; have g1 : w1.cell? ⟨w0.heap.size, 1, none⟩ = some (.int .u8 x.f1) := blk_cell (HLG.out _ HB1.out) 1; have g2 : w1.cell? ⟨w0.heap.size, 2, none⟩ = some (.int .u8 x.f2) := blk_cell (HLG.out _ HB1.out) 2; have g3 : w1.cell? ⟨w0.heap.size, 3, none⟩ = some (.int .u8 x.f3) := blk_cell (HLG.out _ HB1.out) 3; have g4 : w1.cell? ⟨w0.heap.size, 4, none⟩ = some (.int .i32 x.f4) := blk_cell (HLG.out _ HB1.out) 4; have g5 : w1.cell? ⟨w0.heap.size, 5, none⟩ = some (.int .u32 x.f5) := blk_cell (HLG.out _ HB1.out) 5)
      | (go_at_call 16; (with_reducible refine (KP.out _ (hT.below HB.out)).mono ?_); rintro e w1 ⟨rfl, hb⟩; replace HB := Aside0.mk (bel_t8 HB.out hb); clear hb)
      | (go_at_call 16; (with_reducible refine (KQ.out _ (hT.below HB.out)).mono ?_); rintro e w1 ⟨rfl, hb⟩; replace HB := Aside0.mk (bel_t8 HB.out hb); clear hb))
    go_ret
    exact ⟨rfl, HB.out⟩
end Go.Proofs.YthimlgkegobaeaaDoor
