/- The document's acks: Of, Has, Bits. -/
import Derived.Test.YtbfcllpjenohlaaDoorDs2
import Derived.LoopTactic
import Derived.Laws.Tables
import Derived.Laws.CopyOwn
namespace Go.Proofs.YtbfcllpjenohlaaDoor
open Go.RowKit Go.Proofs.YtbfcllpjenohlaaDoorW.PrintWords Go.Proofs.YtbfcllpjenohlaaDoorW.PrintLast Go.Proofs.YtbfcllpjenohlaaDoorW.PrintMore
set_option linter.unusedVariables false
set_option linter.unusedSimpArgs false

/-- The cells of the document's acks. -/
def cameL (x : Int) (f : Nat → Bool) : List Value := Value.int .u16 x :: (List.range 32).map fun i => Value.bool (f i)
def came (x : Int) (f : Nat → Bool) : Array Value := (cameL x f).toArray
theorem came_size (x : Int) (f : Nat → Bool) : (came x f).size = 33 := by simp [came, cameL]
theorem came_congr {x : Int} {f h : Nat → Bool} (e : ∀ i, i < 32 → f i = h i) : came x f = came x h := by
  unfold came cameL
  congr 2
  exact List.map_congr_left fun i hi => by rw [e i (List.mem_range.1 hi)]
def put (f : Nat → Bool) (i : Nat) (v : Bool) : Nat → Bool := fun k => if k = i then v else f k
theorem came_set (x : Int) (f : Nat → Bool) {i : Nat} (hi : i < 32) (v : Bool) : (came x f).setIfInBounds (i + 1) (.bool v) = came x (put f i v) := by
  apply Array.ext'
  simp only [came, cameL, Array.toList_setIfInBounds, List.set_cons_succ]
  congr 1
  apply List.ext_getElem
  · simp
  · intro k h1 h2
    simp only [List.getElem_set, List.getElem_map, List.getElem_range, put]
    by_cases e : i = k
    · simp [e]
    · rw [if_neg e, if_neg (by omega)]
theorem came_set0 (x y : Int) (f : Nat → Bool) : (came x f).setIfInBounds 0 (.int .u16 y) = came y f := by
  apply Array.ext'
  simp [came, cameL]

/-- The block of the document's acks. -/
def Fn (w : World) (g : Nat) (x : Int) (f : Nat → Bool) : Prop := w.heap[g]? = some (.cells (came x f) 44 (0, 0))
theorem Fn.c0 {w : World} {g : Nat} {x : Int} {f : Nat → Bool} (h : Fn w g x f) : w.cell? ⟨g, 0, none⟩ = some (.int .u16 x) := (blk_cell h 0).trans rfl
theorem Fn.at_ {w : World} {g : Nat} {x : Int} {f : Nat → Bool} (h : Fn w g x f) {i : Nat} (hi : i < 32) : w.cell? ⟨g, 1 + i, none⟩ = some (.bool (f i)) := by
  refine (blk_cell h (1 + i)).trans ?_
  rw [Nat.add_comm]
  simp [came, cameL, hi]
theorem Fn.frozen {w : World} {g : Nat} {x : Int} {f : Nat → Bool} (h : Fn w g x f) (i : Nat) : w.frozen? ⟨g, i, none⟩ = false := blk_frozen h i
theorem Fn.set {w : World} {g : Nat} {x : Int} {f : Nat → Bool} (h : Fn w g x f) {i : Nat} (hi : i < 32) (v : Bool) : Fn (w.setCell ⟨g, 1 + i, none⟩ (.bool v)) g x (put f i v) := by
  refine (blk_set h (1 + i) _).trans ?_
  rw [Nat.add_comm, came_set x f hi]
theorem Fn.set0 {w : World} {g : Nat} {x : Int} {f : Nat → Bool} (h : Fn w g x f) (y : Int) : Fn (w.setCell ⟨g, 0, none⟩ (.int .u16 y)) g y f := by
  refine (blk_set h 0 _).trans ?_
  rw [came_set0]
theorem zero_acks (w : World) : (zeroValue 44).run Tryd.prog w = .ok (.agg (came 0 fun _ => false)) w := by kernel_rfl

theorem bit_key (b j : Nat) : (((b : Int) / 2 ^ j).tmod 2 == 1) = b.testBit j := by
  have e : (b : Int) / 2 ^ j = ((b / 2 ^ j : Nat) : Int) := by simp
  rw [e, Nat.testBit_eq_decide_div_mod_eq]
  generalize b / 2 ^ j = q
  rw [Int.tmod_eq_emod_of_nonneg (Int.natCast_nonneg _)]
  by_cases h : q % 2 = 1
  · simp [h]; omega
  · simp [h]; omega
theorem came_one (x : Int) (f : Nat → Bool) : (came x f).all (fun v => v.oneCell') = true := by
  unfold came
  rw [List.all_toArray]
  simp [cameL, Value.oneCell']
theorem came_info (x : Int) (f : Nat → Bool) : (Tryd.prog.info? 44).map (·.size) = some (came x f).size := by rw [came_size]; kernel_rfl

set_option maxRecDepth 100000 in
set_option maxHeartbeats 4000000 in
theorem of_any (x : Int) (b : Nat) (hb : b < 4294967296) (w : World) :
    Calls Tryd.prog 15 #[.int .u16 x, .int .u32 b] w fun e w' => e = .returned (.agg (came x b.testBit)) ∧ Below w.heap.size w w' := by
  have hz := zero_acks
  have hs0 : (came 0 fun _ => false).setIfInBounds 0 (.int .u16 x) = came x fun _ => false := came_set0 _ _ _
  have HB0 := Aside0.mk (below_alloc (below_alloc (Below.refl w.heap.size w) (Obj.cells (came 0 fun _ => false) 44)) (Obj.cells (came 0 fun _ => false) 44))
  have HG0 : Aside0 (((w.alloc (Obj.cells (came 0 fun _ => false) 44)).alloc (Obj.cells (came 0 fun _ => false) 44)).heap[w.heap.size]? = some (.cells (came 0 fun _ => false) 44 (0, 0))) := ⟨blk_alloc (blk_new _ _) _⟩
  have HG1 : Aside0 (((w.alloc (Obj.cells (came 0 fun _ => false) 44)).alloc (Obj.cells (came 0 fun _ => false) 44)).heap[w.heap.size + 1]? = some (.cells (came 0 fun _ => false) 44 (0, 0))) := ⟨by simpa using blk_new (w.alloc (Obj.cells (came 0 fun _ => false) 44)) _⟩
  have HI := fun y f => Aside0.mk (came_info y f)
  have HO := fun y f => Aside0.mk (came_one y f)
  have HS := fun y f => Aside0.mk (came_size y f)
  go_enter Tryd.func15, Tryd.ntmps15
  go_wp2_with (first | (refine wpList_store_row rfl 44 (.tmp 5) (.tmp 8) rfl (w.heap.size + 1) (came x fun _ => false) rfl rfl 44 _ HG1.out (HI _ _).out (by rw [came_size, came_size]) (HO _ _).out ?_))
  have hF : Fn (((w.alloc (Obj.cells (came 0 fun _ => false) 44)).alloc (Obj.cells (came 0 fun _ => false) 44)).setRow (w.heap.size + 1) (came x fun _ => false)) (w.heap.size + 1) x (fun _ => false) := setRow_heap _ _ _ _ _ _ HG1.out
  have hR : Fn (((w.alloc (Obj.cells (came 0 fun _ => false) 44)).alloc (Obj.cells (came 0 fun _ => false) 44)).setRow (w.heap.size + 1) (came x fun _ => false)) w.heap.size 0 (fun _ => false) := (setRow_other _ _ _ _ (by omega)).trans HG0.out
  have hB := below_setRow HB0.out (Nat.le_succ w.heap.size) (came x fun _ => false)
  generalize ((w.alloc (Obj.cells (came 0 fun _ => false) 44)).alloc (Obj.cells (came 0 fun _ => false) 44)).setRow (w.heap.size + 1) (came x fun _ => false) = W at *
  have HF := Aside0.mk hF
  have HR := Aside0.mk hR
  have HB := Aside0.mk hB
  clear hz hs0 HB0 HG0 HG1 h hF hR hB
  go_loopw [9] (fun v9 wr => ∃ (j : Nat) (f : Nat → Bool), j ≤ 32 ∧ v9 = .int .i64 j ∧ Aside0 (Fn wr (w.heap.size + 1) x f ∧ (∀ i, i < j → f i = b.testBit i) ∧ Fn wr w.heap.size 0 (fun _ => false) ∧ Below w.heap.size w wr)) (fun v9 _ => 32 - (intOf v9).toNat)
  case atStart => exact ⟨0, _, by omega, rfl, ⟨HF.out, fun i h => absurd h (by omega), HR.out, HB.out⟩⟩
  case round =>
    clear HF HR HB
    obtain ⟨j, f, hj, rfl, K⟩ := hrel
    by_cases hlt : j < 32
    · have cc := K.out.1.at_ hlt
      have ff := K.out.1.frozen (1 + j)
      go_wp2_with fail
      rw [bit_key]
      go_roundw
      case rel =>
        refine ⟨j + 1, put f j (b.testBit j), by omega, by go_num, ⟨K.out.1.set hlt _, ?_, blk_far K.out.2.2.1 (by simp) _, below_set K.out.2.2.2 (by omega)⟩⟩
        intro i hi
        unfold put
        by_cases e : i = j
        · rw [if_pos e, e]
        · rw [if_neg e]; exact K.out.2.1 i (by omega)
      case measure => simp [intOf]; omega
    · have hj32 : j = 32 := by omega
      have hcf : came x f = came x b.testBit := came_congr fun i hi => K.out.2.1 i (by omega)
      have KF : Aside0 (wr.heap[w.heap.size + 1]? = some (.cells (came x b.testBit) 44 (0, 0))) := ⟨by rw [← hcf]; exact K.out.1⟩
      have KR := Aside0.mk K.out.2.2.1
      have KB := Aside0.mk K.out.2.2.2
      have hd := decide_eq_false hlt
      clear K hcf hj32 hj
      go_wp2_with (first | (refine wpList_load_row rfl 44 (.tmp 5) rfl (w.heap.size + 1) rfl 44 _ (0, 0) _ KF.out Tryd.underlying44 rfl (HI _ _).out ?_) | (refine wpList_store_row rfl 44 (.tmp 4) (.tmp 21) rfl w.heap.size _ rfl rfl 44 _ KR.out (HI _ _).out (by rw [came_size, came_size]) (HO _ _).out ?_))
      refine bodyPost_ret (v := .agg (came x b.testBit)) (results_cell_row Tryd.results15 _ _ w.heap.size 44 _ (0, 0) _ rfl (setRow_heap _ _ _ _ _ _ KR.out) Tryd.underlying44 rfl (HI _ _).out) rfl ⟨rfl, ?_⟩
      exact below_setRow KB.out (Nat.le_refl _) _
end Go.Proofs.YtbfcllpjenohlaaDoor
