/- slices.Clone of cells; board.Cells. -/
import Derived.Test.YtkjjmmgngdpppaaUc
import Derived.Lib.SliceRun
namespace Go.Proofs.Ytkjjmmgngdpppaa
open Go.RowKit Go.Proofs.YtkjjmmgngdpppaaW.PrintWords Go.Proofs.YtkjjmmgngdpppaaW.PrintLast Go.Proofs.YtkjjmmgngdpppaaW.PrintMore
set_option linter.unusedVariables false
set_option linter.unusedSimpArgs false

theorem Ru_C {α : Type} {d : Kd α} {e base n c : Nat} {w : World} {ok : Nat → Prop} {Q : Option Addr} {xs : List α} (h : d.R e w base ok (.slice Q n c) xs) : xs.length = n ∧ n ≤ c ∧ d.C w Q n xs := by
  obtain ⟨A, c', he, hl, hC⟩ := Kd.R_reads h
  injection he with h1 h2 h3
  subst h1 h2 h3
  exact ⟨rfl, hl, hC⟩
theorem cell_full : (Try.prog.info? 25).map (fun i => (i.zero, i.size, i.bytes)) = some (some (.agg #[.int .i32 0, .int .u32 0]), 2, 8) := by kernel_rfl
theorem cnil (a : Option Addr) (n c : Nat) (w : World) : (binOp .eql 27 (.slice a n c) (.slice none 0 0)).run Try.prog w = .ok (.bool a.isNone) w := Go.Lib.run_eql_slice_nil w _ _ _ _ _ _ _ Try.underlying27
set_option maxHeartbeats 1000000 in
theorem cclone_any (A : Option Addr) (n c : Nat) (L : List S25) (w : World) (hq : k25.C w A n L) (hn : n ≤ 1000000) :
    Calls Try.prog 33 #[.slice A n c] w fun e w' => ∃ v, e = .returned v ∧ k25.R 25 w' w.heap.size (fun _ => True) v L ∧ Below w.heap.size w w' := by
  cases A with
  | none =>
    obtain rfl := C_none hq
    have hz := cnil none n c w
    clear hq
    go_enter Try.func33, Try.ntmps33
    go_wp2_with fail
    go_ret
    exact ⟨_, rfl, Kd.R_nil _ _ _ _ _, Below.refl _ _⟩
  | some ad =>
    have HQ := Aside0.mk (Kd.C_alloc hq (.cells #[] 25))
    have HB := Aside0.mk (below_alloc (Below.refl w.heap.size w) (.cells #[] 25))
    have HO := Aside0.mk (R_made0 k25 25 w w.heap.size (Nat.le_refl _))
    have HL : Aside0 ((([] : List S25).length + n) * 8 ≤ 140737488355328) := ⟨by simp; omega⟩
    have hz := cnil (some ad) n c w
    clear hq hn
    go_enter Try.func33, Try.ntmps33
    go_wp2_with (at_builtin; go_loud (refine Kd.R_append_rows k25 (Rr := fun x cs => cs = [.int .i32 x.f0, .int .u32 x.f1]) (w0 := w) w.heap.size rfl (.tmp 5) (.tmp 6) 27 25 (.agg #[.int .i32 0, .int .u32 0]) 8 rfl Try.underlying27 cell_full rfl (by decide) (by decide) _ [] L (some ad) n c (fun _ => True) (fun _ => False) rfl rfl HO.out (ReadsRow.imp_ HQ.out (Below.refl _ _) (fun x cs hp => k25_open hp)) (fun x cs h => by rw [h]; exact k25_mkM _ _ _ x) (fun _ h => h.elim) (fun _ _ => trivial) HB.out HB.out.size HL.out ?_))
    intro v1 w1 ho hb1 _ _
    have HO1 := Aside0.mk ho
    have HB1 := Aside0.mk hb1
    clear ho hb1
    go_wp2_with fail
    go_ret
    exact ⟨_, rfl, HO1.out, HB1.out⟩
set_option maxHeartbeats 1000000 in
theorem cells_any (f : Nat → S25) (n : Nat) (w : World) (hn : n ≤ 48) :
    Calls Try.prog 12 #[.agg (boardC f n)] w fun e w' => ∃ v, e = .returned v ∧ k25.R 25 w' w.heap.size (fun _ => True) v (listF f n) ∧ Below w.heap.size w w' := by
  have g0 : Bd (w.alloc (.cells (boardC f n) 30)) w.heap.size f n := blk_new w (.cells (boardC f n) 30)
  have c96 := g0.num
  have hal := below_alloc (Below.refl w.heap.size w) (.cells (boardC f n) 30)
  have KC := Aside0.mk (cclone_any (some ⟨w.heap.size, 0, none⟩) n 48 (listF f n) _ (C_of_board g0 hn) (by omega))
  have HAL := Aside0.mk hal
  have hn48 : (n : Int) ≤ 48 := by omega
  clear g0 hal hn
  go_enter Try.func12, Try.ntmps12
  go_wp2_with fail
  refine KC.out.mono ?_
  rintro e w1 ⟨v, rfl, ho, hb⟩
  have HO := Aside0.mk (Kd.R_lower ho HAL.out.size)
  have HB := Aside0.mk (below_step HAL.out hb)
  clear ho hb KC
  go_wp2_with fail
  go_ret
  exact ⟨_, rfl, HO.out, HB.out⟩
end Go.Proofs.Ytkjjmmgngdpppaa
