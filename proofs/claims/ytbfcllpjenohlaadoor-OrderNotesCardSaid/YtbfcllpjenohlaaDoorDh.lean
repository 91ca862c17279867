/- The document's acks: Note. -/
import Derived.Test.YtbfcllpjenohlaaDoorDg
import Derived.Test.YtbfcllpjenohlaaDoorDp
namespace Go.Proofs.YtbfcllpjenohlaaDoor
open Go.RowKit Go.Proofs.YtbfcllpjenohlaaDoorW.PrintWords Go.Proofs.YtbfcllpjenohlaaDoorW.PrintLast Go.Proofs.YtbfcllpjenohlaaDoorW.PrintMore
set_option linter.unusedVariables false
set_option linter.unusedSimpArgs false

/-- A whole row loaded by an operation that is guarded. -/
theorem wpList_load_row_g {P : Program} {ops : Array Oper} {rest : List Oper} {o : Oper} {a : Act} {w : World} {Q : Exit → Act → World → Prop} (hw : Region.wanted o (yielded ops a.tmps) = true) (ty : TypeId) (x : Operand) (ho : o.op = .load ty x)
    (g : Nat) (hx : a.eval x = .pointer (some ⟨g, 0, none⟩)) (t : TypeId) (cs : Array Value) (fr : Nat × Nat) (d : TypeDesc) (hg : w.heap[g]? = some (.cells cs t fr))
    (hu : P.underlying ty = some d) (hd : (match d with | .struct _ | .array _ _ => true | _ => false) = true) (hi : (P.info? ty).map (·.size) = some cs.size)
    (h : wpList P ops Q rest (a.put o.dst (.agg cs)) w) : wpList P ops Q (o :: rest) a w := by
  unfold wpList
  rw [if_pos hw]
  exact .inl (wp_load_row ty x ho g hx t cs fr d hg hu hd hi h)

theorem noteN_false {x s : Int} {b : Nat} (h : dist x s > 32 ∨ hasN x b s = true) : noteN x b s = ((x, b), false) := by unfold noteN; rw [if_pos h]

set_option maxRecDepth 100000 in
set_option maxHeartbeats 4000000 in
/-- What is refused. -/
theorem refnote_no (x s : Int) (b : Nat) (hx : 0 ≤ x ∧ x < 65536) (hs : 0 ≤ s ∧ s < 65536) (hN : dist x s > 32 ∨ hasN x b s = true) (w : World) :
    Calls Tryd.prog 17 #[.agg (came x b.testBit), .int .u16 s] w fun e w' => e = .returned (.tuple #[.agg (came x b.testBit), .bool false]) ∧ Below w.heap.size w w' := by
  have h1 := dist_lo x s
  have h2 := dist_hi x s
  have hR := fun w => Lib.hid (refto_any x s hx.1 hx.2 hs.1 hs.2 w)
  have hH := fun w => Lib.hid (refhas_any x s b hx hs w)
  have hz := zero_acks
  obtain ⟨W, hW⟩ : ∃ W, W = (w.alloc (.cells (came x b.testBit) 44)).alloc (.cells (came 0 fun _ => false) 44) := ⟨_, rfl⟩
  have HB : Aside0 (Below w.heap.size w W) := ⟨by rw [hW]; exact below_alloc (below_alloc (Below.refl _ _) _) _⟩
  have HG : Aside0 (Fn W w.heap.size x b.testBit) := ⟨by rw [hW]; exact blk_alloc (blk_new _ _) _⟩
  have HR : Aside0 (Fn W (w.heap.size + 1) 0 (fun _ => false)) := ⟨by rw [hW]; unfold Fn; simpa using blk_new (w.alloc (.cells (came x b.testBit) 44)) _⟩
  have HI := fun y f => Aside0.mk (came_info y f)
  have HO := fun y f => Aside0.mk (came_one y f)
  have HS := came_size x b.testBit
  have hc0 : ∀ h, (came x b.testBit)[0]'h = .int .u16 x := fun _ => rfl
  have a0 := HG.out.c0
  have hcase : (dist x s < 0) ∨ (32 < dist x s) ∨ (0 ≤ dist x s ∧ dist x s ≤ 32 ∧ hasN x b s = true) := by
    rcases hN with h | h
    · exact .inr (.inl h)
    · by_cases c1 : dist x s < 0
      · exact .inl c1
      by_cases c2 : 32 < dist x s
      · exact .inr (.inl c2)
      · exact .inr (.inr ⟨by omega, by omega, h⟩)
  clear hN hx hs
  rcases hcase with c | c | ⟨c1, c2, c3⟩
  case inl =>
    have cb := decide_eq_true c
    go_enter Tryd.func17, Tryd.ntmps17
    go_wp2_with fail
    rw [← hW]
    refine (hR _).out.mono ?_
    rintro e w1 ⟨rfl, nd, rfl⟩
    clear hW hz
    go_wp2_with (first | (refine wpList_load_row rfl 44 (.tmp 2) rfl w.heap.size rfl 44 _ (0, 0) _ (blk_drewN HG.out nd) Tryd.underlying44 rfl (HI _ _).out ?_) | (refine wpList_store_row rfl 44 (.tmp 4) (.tmp 24) rfl (w.heap.size + 1) _ rfl rfl 44 _ (blk_drewN HR.out nd) (HI _ _).out (by rw [came_size, came_size]) (HO _ _).out ?_))
    refine bodyPost_ret (results_ct rfl _ _ (w.heap.size + 1) _ _ (0, 0) _ rfl (setRow_heap _ _ _ _ _ _ (blk_drewN HR.out nd)) Tryd.underlying44 rfl (HI _ _).out) rfl ⟨rfl, below_setRow (pw_below_drewN HB.out _) (by omega) _⟩
  case inr.inl =>
    have cb := decide_eq_true c
    have cb2 : decide (dist x s < 0) = false := decide_eq_false (by omega)
    go_enter Tryd.func17, Tryd.ntmps17
    go_wp2_with fail
    rw [← hW]
    refine (hR _).out.mono ?_
    rintro e w1 ⟨rfl, nd, rfl⟩
    clear hW hz
    go_wp2_with (first | (refine wpList_load_row rfl 44 (.tmp 2) rfl w.heap.size rfl 44 _ (0, 0) _ (blk_drewN HG.out nd) Tryd.underlying44 rfl (HI _ _).out ?_) | (refine wpList_store_row rfl 44 (.tmp 4) (.tmp 24) rfl (w.heap.size + 1) _ rfl rfl 44 _ (blk_drewN HR.out nd) (HI _ _).out (by rw [came_size, came_size]) (HO _ _).out ?_))
    refine bodyPost_ret (results_ct rfl _ _ (w.heap.size + 1) _ _ (0, 0) _ rfl (setRow_heap _ _ _ _ _ _ (blk_drewN HR.out nd)) Tryd.underlying44 rfl (HI _ _).out) rfl ⟨rfl, below_setRow (pw_below_drewN HB.out _) (by omega) _⟩
  case inr.inr =>
    have cb : decide (32 < dist x s) = false := decide_eq_false (by omega)
    have cb2 : decide (dist x s < 0) = false := decide_eq_false (by omega)
    go_enter Tryd.func17, Tryd.ntmps17
    go_wp2_with fail
    rw [← hW]
    refine (hR _).out.mono ?_
    rintro e w1 ⟨rfl, nd, rfl⟩
    clear hW hz
    go_wp2_with (first | (refine wpList_load_row_g rfl 44 (.tmp 2) rfl w.heap.size rfl 44 _ (0, 0) _ (blk_drewN HG.out nd) Tryd.underlying44 rfl (HI _ _).out ?_))
    refine (hH _).out.mono ?_
    rintro e w2 ⟨rfl, hb2⟩
    rw [c3]
    have HG2 := Aside0.mk (blk_below (blk_drewN HG.out nd) hb2)
    have HR2 := Aside0.mk (blk_below (blk_drewN HR.out nd) hb2)
    have HB2 := Aside0.mk (below_step (pw_below_drewN HB.out nd) hb2)
    clear hb2
    go_wp2_with (first | (refine wpList_load_row rfl 44 (.tmp 2) rfl w.heap.size rfl 44 _ (0, 0) _ HG2.out Tryd.underlying44 rfl (HI _ _).out ?_) | (refine wpList_store_row rfl 44 (.tmp 4) (.tmp 24) rfl (w.heap.size + 1) _ rfl rfl 44 _ HR2.out (HI _ _).out (by rw [came_size, came_size]) (HO _ _).out ?_))
    refine bodyPost_ret (results_ct rfl _ _ (w.heap.size + 1) _ _ (0, 0) _ rfl (setRow_heap _ _ _ _ _ _ HR2.out) Tryd.underlying44 rfl (HI _ _).out) rfl ⟨rfl, below_setRow HB2.out (by omega) _⟩
end Go.Proofs.YtbfcllpjenohlaaDoor
