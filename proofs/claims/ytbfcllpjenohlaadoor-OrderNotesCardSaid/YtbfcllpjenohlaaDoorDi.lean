/- The document's acks: Note, what is new. -/
import Derived.Test.YtbfcllpjenohlaaDoorDh
namespace Go.Proofs.YtbfcllpjenohlaaDoor
open Go.RowKit Go.Proofs.YtbfcllpjenohlaaDoorW.PrintWords Go.Proofs.YtbfcllpjenohlaaDoorW.PrintLast Go.Proofs.YtbfcllpjenohlaaDoorW.PrintMore
set_option linter.unusedVariables false
set_option linter.unusedSimpArgs false

theorem put_bits (b i : Nat) (hi : i < 32) : ∀ k, k < 32 → put b.testBit i true k = (b ||| 2 ^ i).testBit k := by
  intro k hk
  unfold put
  rw [Nat.testBit_or, Nat.testBit_two_pow]
  by_cases h : k = i
  · subst h; simp
  · have : ¬ i = k := fun e => h e.symm
    simp [h, this]

set_option maxRecDepth 100000 in
set_option maxHeartbeats 4000000 in
/-- One behind the next. -/
theorem refnote_some (x s : Int) (b : Nat) (hx : 0 ≤ x ∧ x < 65536) (hs : 0 ≤ s ∧ s < 65536) (i : Nat) (hi : i < 32) (hd : dist x s = (i : Int) + 1) (hn : hasN x b s = false) (w : World) :
    Calls Tryd.prog 17 #[.agg (came x b.testBit), .int .u16 s] w fun e w' => e = .returned (.tuple #[.agg (came x (b ||| 2 ^ i).testBit), .bool true]) ∧ Below w.heap.size w w' := by
  have h1 := dist_lo x s
  have h2 := dist_hi x s
  have hR := fun w => Lib.hid (refto_any x s hx.1 hx.2 hs.1 hs.2 w)
  have hH := fun w => Lib.hid (refhas_any x s b hx hs w)
  have hz := zero_acks
  obtain ⟨W, hW⟩ : ∃ W, W = (w.alloc (.cells (came x b.testBit) 44)).alloc (.cells (came 0 fun _ => false) 44) := ⟨_, rfl⟩
  have HB : Aside0 (Below w.heap.size w W) := ⟨by rw [hW]; exact below_alloc (below_alloc (Below.refl _ _) _) _⟩
  have HG : Aside0 (Fn W w.heap.size x b.testBit) := ⟨by rw [hW]; exact blk_alloc (blk_new _ _) _⟩
  have HR : Aside0 (Fn W (w.heap.size + 1) 0 (fun _ => false)) := ⟨by rw [hW]; unfold Fn; simpa using blk_new (w.alloc (.cells (came x b.testBit) 44)) _⟩
  have HI := fun y f => Aside0.mk (came_info y f)
  have HO := fun y f => Aside0.mk (came_one y f)
  have HS := came_size x b.testBit
  have hc0 : ∀ h, (came x b.testBit)[0]'h = .int .u16 x := fun _ => rfl
  have a0 := HG.out.c0
  have hp : came x (put b.testBit i true) = came x (b ||| 2 ^ i).testBit := came_congr (put_bits b i hi)
  clear hx hs
  generalize dist x s = d at *
  subst hd
  have cb : decide (32 < (i : Int) + 1) = false := decide_eq_false (by omega)
  have cb2 : decide ((i : Int) + 1 < 0) = false := decide_eq_false (by omega)
  have cb3 : decide (0 < (i : Int) + 1) = true := decide_eq_true (by omega)
  have k2 : ((i : Int) + 1).toNat - 1 = i := by omega
  go_enter Tryd.func17, Tryd.ntmps17
  go_wp2_with fail
  rw [← hW]
  refine (hR _).out.mono ?_
  rintro e w1 ⟨rfl, nd, rfl⟩
  clear hW hz
  go_wp2_with (first | (refine wpList_load_row_g rfl 44 (.tmp 2) rfl w.heap.size rfl 44 _ (0, 0) _ (blk_drewN HG.out nd) Tryd.underlying44 rfl (HI _ _).out ?_))
  refine (hH _).out.mono ?_
  rintro e w2 ⟨rfl, hb2⟩
  rw [hn]
  have HG2 := Aside0.mk (blk_below (blk_drewN HG.out nd) hb2)
  have HR2 := Aside0.mk (blk_below (blk_drewN HR.out nd) hb2)
  have HB2 := Aside0.mk (below_step (pw_below_drewN HB.out nd) hb2)
  clear hb2
  have ci := Fn.at_ (w := w2) (x := x) (f := b.testBit) HG2.out hi
  have fi := Fn.frozen (w := w2) (x := x) (f := b.testBit) HG2.out (1 + i)
  have HG3 := Aside0.mk (Fn.set (w := w2) (x := x) (f := b.testBit) HG2.out hi true)
  have HR3 := Aside0.mk (blk_far HR2.out (p := ⟨w.heap.size, 1 + i, none⟩) (by simp) (.bool true))
  have HB3 := Aside0.mk (below_set (j := 1 + i) (v := .bool true) HB2.out (Nat.le_refl _))
  unfold Fn at HG3
  rw [hp] at HG3
  go_wp2_with (first | (refine wpList_load_row rfl 44 (.tmp 2) rfl w.heap.size rfl 44 _ (0, 0) _ HG3.out Tryd.underlying44 rfl (HI _ _).out ?_) | (refine wpList_store_row rfl 44 (.tmp 4) (.tmp 31) rfl (w.heap.size + 1) _ rfl rfl 44 _ HR3.out (HI _ _).out (by rw [came_size, came_size]) (HO _ _).out ?_))
  refine bodyPost_ret (results_ct rfl _ _ (w.heap.size + 1) _ _ (0, 0) _ rfl (setRow_heap _ _ _ _ _ _ HR3.out) Tryd.underlying44 rfl (HI _ _).out) rfl ⟨rfl, below_setRow HB3.out (by omega) _⟩
end Go.Proofs.YtbfcllpjenohlaaDoor
