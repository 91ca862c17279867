/- The document's example of law 12: awake. -/
import Derived.Test.YtmhninlndjcikaaKc
namespace Go.Proofs.Ytmhninlndjcikaa
open Go.RowKit Go.Proofs.YtmhninlndjcikaaW.PrintWords Go.Proofs.YtmhninlndjcikaaW.PrintLast Go.Proofs.YtmhninlndjcikaaW.PrintMore
set_option linter.unusedVariables false
set_option linter.unusedSimpArgs false

set_option maxRecDepth 100000 in
set_option maxHeartbeats 1000000 in
theorem awake_any (w : World) : Calls Try.prog 9 #[] w fun e w' => e = .returned (.bool true) ∧ Below w.heap.size w w' := by
  have hm : ∀ w : World, (Instr.makeSlice 24 (.int .i64 100) (.int .i64 100)).run Try.prog w = .ok (.slice (some ⟨w.heap.size, 0, none⟩) 100 100) (w.alloc (.cells (row8 (List.replicate 100 0)) 5)) := fun w => make_u8 .i64 .i64 100 (by omega) w
  have B1 := Aside0.mk (below_alloc (Below.refl w.heap.size w) (.cells (row8 (List.replicate 100 0)) 5))
  have C1 : Aside0 ((Kd.int .u8).C (w.alloc (.cells (row8 (List.replicate 100 0)) 5)) (some ⟨w.heap.size, 0, none⟩) 100 (List.replicate 100 0)) := ⟨Row8.reads (blk_new _ _) (by simp) (by omega)⟩
  go_enter Try.func9, Try.ntmps9
  go_wp2_with fail
  refine (split_any _ 100 100 _ _ C1.out (by omega) (by omega)).mono ?_
  rintro e w2 ⟨v, rfl, ho, hb⟩
  have HB := Aside0.mk (below_step B1.out hb)
  obtain ⟨Q, d, rfl, hd, hC⟩ := Kd.R_reads ho
  have hlen : (pieces (List.replicate 100 (0 : Int))).length = 2 := by rw [pieces_length]; simp [countN]
  obtain ⟨ad, b0, k0, e0, x0, x1, x2, x3, x4⟩ := piece_at hC 0 (by omega)
  obtain ⟨ad', b1, k1, e1, y0, y1, y2, y3, y4⟩ := piece_at hC 1 (by omega)
  subst e0
  obtain rfl : ad = ad' := by simpa using e1
  have p0 : (pieces (List.replicate 100 (0 : Int)))[0].f = true := by rw [pieces_get]; rfl
  have p1 : (pieces (List.replicate 100 (0 : Int)))[1].l = true := by rw [pieces_get]; simp [pieceN, countN]
  have p2 : (pieces (List.replicate 100 (0 : Int)))[1].d.length = 36 := by rw [pieces_get]; simp [pieceN]
  rw [p0] at x0
  rw [p1] at y1
  rw [p2] at y2
  rw [hlen] at hd
  rw [hlen]
  clear x3 x4 y3 y4 p0 p1 p2 x1 x2 y0 hlen hm e1 hb ho hC
  simp [Addr.add] at x0 y1 y2
  go_wp2_with fail
  go_ret
  exact ⟨rfl, HB.out⟩
end Go.Proofs.Ytmhninlndjcikaa
