/- Contracts of wax.Table's other methods: tail, Seal, Open, Make. -/
import Derived.Test.YtadodibnjdeckaaWx
import Derived.Laws.Tables
import Derived.Laws.CopyOwn
namespace Go.Proofs.Ytadodibnjdeckaa
open Go.RowKit Go.Proofs.YtadodibnjdeckaaW.PrintWords Go.Proofs.YtadodibnjdeckaaW.PrintLast Go.Proofs.YtadodibnjdeckaaW.PrintMore
set_option linter.unusedVariables false
set_option linter.unusedSimpArgs false

/-! ### tail -/
def tailC (n : Nat) : Array Value := #[.int .u8 ((n : Int) % 256), .int .u8 ((n : Int) / 256 % 256), .int .u8 ((n : Int) / 65536 % 256), .int .u8 ((n : Int) / 16777216)]
def tailL (n : Nat) : List Int := [(n : Int) % 256, (n : Int) / 256 % 256, (n : Int) / 65536 % 256, (n : Int) / 16777216]
theorem tailC_one (n : Nat) : (tailC n).all (fun x => x.oneCell') = true := by simp [tailC, Value.oneCell']
def tailV (n : Nat) : Value := .agg (tailC n)
set_option maxRecDepth 100000 in
set_option maxHeartbeats 1000000 in
theorem tail_any (tb : Nat → Nat) (T : Array Value) (A : Option Addr) (n c : Nat) (l : List Int) (w : World) (hT : IsTab tb T) (hr0 : (Kd.int .u8).C w A n l) (hc : n ≤ c) (hb : Bytes l) :
    Calls Try.prog 21 #[.agg T, .slice A n c] w fun e w' => e = .returned (tailV (sumN tb l)) ∧ Below w.heap.size w w' := by
  have HR0 := Aside0.mk hr0
  have HT := Aside0.mk hT
  have HBY := Aside0.mk hb
  clear hr0 hT hb
  go_enter Try.func21, Try.ntmps21
  have hsz : (Try.prog.info? 28).map (·.size) = some T.size := by rw [HT.out.size]; kernel_rfl
  have Hsz := Aside0.mk hsz
  clear hsz
  go_wp2_with (first | (refine wpList_load_row rfl 28 (.tmp 2) rfl w.heap.size rfl 28 T (0, 0) _ (heap_alloc2_old _ _ _) Try.underlying28 rfl Hsz.out ?_))
  refine (sum_any' tb T _ _ _ [l] _ HT.out (C_one_row (by simp) (Kd.C_alloc (Kd.C_alloc HR0.out _) _) hc) (by intro p hp; rw [List.mem_singleton.1 hp]; exact HBY.out)).mono ?_
  rintro e w1 ⟨rfl, hb1⟩
  have HB1 := Aside0.mk (below_step (below_alloc (below_alloc (below_alloc (Below.refl w.heap.size w) _) _) _) hb1)
  have hg1 : w1.heap[w.heap.size + 1]? = some (.cells #[.int .u8 0, .int .u8 0, .int .u8 0, .int .u8 0] 48 (0, 0)) := by
    rw [hb1.block _ (by simp), heap_alloc_old _ _ (by simp), heap_alloc2_new]
  clear hb1
  have hN : ([l].flatten) = l := by simp
  rw [hN]
  have hnl : sumN tb l < 4294967296 := by unfold sumN; omega
  generalize hm : sumN tb l = m at *
  have HM := Lib.hid hm
  clear hm
  have hi4 : (Try.prog.info? 48).map (·.size) = some 4 := by kernel_rfl
  have Hg1 := Aside0.mk hg1
  have Hi4 := Aside0.mk hi4
  clear hg1 hi4
  go_wp2_with (first | (refine wpList_store_row rfl 48 (.tmp 4) (.tmp 21) rfl (w.heap.size + 1) (tailC m) rfl rfl 48 #[.int .u8 0, .int .u8 0, .int .u8 0, .int .u8 0] Hg1.out Hi4.out rfl (tailC_one m) ?_))
  refine bodyPost_ret (v := tailV m) (results_cell_row Try.results21 _ _ (w.heap.size + 1) 48 (tailC m) (0, 0) _ rfl (setRow_heap _ _ _ _ _ _ Hg1.out) Try.underlying48 rfl Hi4.out) rfl ⟨by rw [HM.out], ?_⟩
  exact below_setRow HB1.out (by omega) _

/-! ### Seal -/
set_option maxRecDepth 100000 in
set_option maxHeartbeats 1000000 in
theorem seal_any (tb : Nat → Nat) (T : Array Value) (A : Option Addr) (n c : Nat) (l : List Int) (w : World) (hT : IsTab tb T) (hr0 : (Kd.int .u8).C w A n l) (hc : n ≤ c) (hb : Bytes l) (hn : n ≤ 140737488351232) :
    Calls Try.prog 15 #[.agg T, .slice A n c] w fun e w' => ∃ v, e = .returned v ∧ (Kd.int .u8).R 5 w' w.heap.size (fun _ => True) v (l ++ tailL (sumN tb l)) ∧ Below w.heap.size w w' := by
  have HR0 := Aside0.mk hr0
  have HT := Aside0.mk hT
  have HBY := Aside0.mk hb
  clear hr0 hT hb
  have Hsz : Aside0 ((Try.prog.info? 28).map (·.size) = some T.size) := ⟨by rw [HT.out.size]; kernel_rfl⟩
  have Hi4 : Aside0 ((Try.prog.info? 48).map (·.size) = some 4) := ⟨by kernel_rfl⟩
  go_enter Try.func15, Try.ntmps15
  go_wp2_with (first | (refine wpList_load_row rfl 28 (.tmp 2) rfl w.heap.size rfl 28 T (0, 0) _ (heap_alloc_new _ _) Try.underlying28 rfl Hsz.out ?_))
  refine (tail_any tb T _ _ _ l _ HT.out (Kd.C_alloc HR0.out _) hc HBY.out).mono ?_
  rintro e w1 ⟨rfl, hb1⟩
  have HB1 := Aside0.mk (below_step (below_alloc (Below.refl w.heap.size w) _) hb1)
  clear hb1
  go_wp2_with (first | (refine wpList_store_row rfl 48 (.tmp 5) (.tmp 8) rfl w1.heap.size (tailC (sumN tb l)) rfl rfl 48 #[.int .u8 0, .int .u8 0, .int .u8 0, .int .u8 0] (heap_alloc_new _ _) Hi4.out rfl (tailC_one _) ?_))
  obtain ⟨W, hW⟩ : ∃ W, W = (w1.alloc (Obj.cells #[Value.int IntKind.u8 0, Value.int IntKind.u8 0, Value.int IntKind.u8 0, Value.int IntKind.u8 0] 48)).setRow w1.heap.size (tailC (sumN tb l)) := ⟨_, rfl⟩
  rw [← hW]
  have HBW : Aside0 (Below w.heap.size w W) := ⟨by rw [hW]; exact below_setRow (below_alloc HB1.out _) HB1.out.size _⟩
  have hg : W.heap[w1.heap.size]? = some (.cells (tailC (sumN tb l)) 48 (0, 0)) := by rw [hW]; exact setRow_heap _ _ _ _ _ _ (heap_alloc_new _ _)
  have HC4 : Aside0 ((Kd.int .u8).C W (some ⟨w1.heap.size, 0, none⟩) 4 (tailL (sumN tb l))) := ⟨C_of_block hg (by simp [tailC, tailL])⟩
  have hg1 : w1.heap.size < W.heap.size := blk_lt hg
  have HRW := Aside0.mk (Kd.C_below HR0.out HBW.out)
  clear hW hg HB1
  generalize w1.heap.size = g at *
  go_frame
  go_region_law (first | (refine R_app_step .u8 (w0 := w) w.heap.size rfl (.tmp 10) (.tmp 11) 22 5 1 rfl Try.underlying22 wx_info5 (by decide) _ l (tailL (sumN tb l)) (some ⟨g, 0, none⟩) 4 4 (fun _ => True) rfl rfl ?aO ?aR (fun _ _ => trivial) ?aB ?aS ?aL ?_; (case aO => exact Kd.R_lower ho2 HBW.out.size); (case aR => exact Kd.C_below (Kd.C_drew HC4.out) hb2); (case aB => exact below_step HBW.out.drew hb2); (case aS => exact (below_step HBW.out.drew hb2).size); (case aL => have := HR0.out.1; omega); intro v3 w3 ho3 hb3 _ _) | (go_simp; go_at_call 22; refine (clone_any _ _ _ l _ ?cR hn).mono ?_; (case cR => exact Kd.C_drew HRW.out); rintro e w2 ⟨v2, rfl, ho2, hb2⟩))
  go_wp2
  go_ret
  exact ⟨_, rfl, ho3, hb3⟩

end Go.Proofs.Ytadodibnjdeckaa
