/- Rows of cells: what is read of them; steps of the walks. -/
import Derived.Test.YtkjjmmgngdpppaaUi
namespace Go.Proofs.Ytkjjmmgngdpppaa
open Go.RowKit Go.Proofs.YtkjjmmgngdpppaaW.PrintWords Go.Proofs.YtkjjmmgngdpppaaW.PrintLast Go.Proofs.YtkjjmmgngdpppaaW.PrintMore
set_option linter.unusedVariables false
set_option linter.unusedSimpArgs false

/-- Of a row of cells those from i on, up to k, are f's. -/
def Rk (w : World) (g i k : Nat) (f : Nat → S25) : Prop := ∃ cur, w.heap[g]? = some (.cells cur 25 (0, 0)) ∧ ∀ j, i ≤ j → j < k → cur[2 * j]? = some (.int .i32 (f j).f0) ∧ cur[2 * j + 1]? = some (.int .u32 (f j).f1)
theorem Rk.lo {w : World} {g i k : Nat} {f : Nat → S25} (h : Rk w g i k f) {j : Nat} (h1 : i ≤ j) (h2 : j < k) : w.cell? ⟨g, 2 * j, none⟩ = some (.int .i32 (f j).f0) := by
  obtain ⟨cur, hb, hc⟩ := h
  exact (blk_cell hb (2 * j)).trans (hc j h1 h2).1
theorem Rk.hi {w : World} {g i k : Nat} {f : Nat → S25} (h : Rk w g i k f) {j : Nat} (h1 : i ≤ j) (h2 : j < k) : w.cell? ⟨g, 2 * j + 1, none⟩ = some (.int .u32 (f j).f1) := by
  obtain ⟨cur, hb, hc⟩ := h
  exact (blk_cell hb (2 * j + 1)).trans (hc j h1 h2).2
theorem Rk.frozen {w : World} {g i k : Nat} {f : Nat → S25} (h : Rk w g i k f) (o : Nat) : w.frozen? ⟨g, o, none⟩ = false := by
  obtain ⟨cur, hb, hc⟩ := h
  exact blk_frozen hb o
theorem Rk.block {w w1 : World} {g i k : Nat} {f : Nat → S25} (h : Rk w g i k f) (e : w1.heap[g]? = w.heap[g]?) : Rk w1 g i k f := by
  obtain ⟨cur, hb, hc⟩ := h
  exact ⟨cur, e.trans hb, hc⟩
theorem Rk.lt {w : World} {g i k : Nat} {f : Nat → S25} (h : Rk w g i k f) : g < w.heap.size := by
  obtain ⟨cur, hb, hc⟩ := h
  exact (Array.getElem?_eq_some_iff.1 hb).1
theorem Rk.below {w w1 : World} {g i k : Nat} {f : Nat → S25} (h : Rk w g i k f) (e : Below w.heap.size w w1) : Rk w1 g i k f := h.block (e.block _ h.lt)
theorem Rk.setlo {w : World} {g i k : Nat} {f : Nat → S25} (h : Rk w g i k f) (v : Value) : Rk (w.setCell ⟨g, 2 * i, none⟩ v) g (i + 1) k f := by
  obtain ⟨cur, hb, hc⟩ := h
  refine ⟨_, blk_set hb (2 * i) v, fun j h1 h2 => ?_⟩
  obtain ⟨c0, c1⟩ := hc j (by omega) h2
  exact ⟨by rw [Array.getElem?_setIfInBounds_ne (by omega)]; exact c0, by rw [Array.getElem?_setIfInBounds_ne (by omega)]; exact c1⟩
theorem Rk_of_R {w : World} {base : Nat} {ok : Nat → Prop} {v : Value} {L : List S25} (h : k25.R 25 w base ok v L) :
    (L = [] ∧ v = .slice none 0 0) ∨ ∃ g cap, v = .slice (some ⟨g, 0, none⟩) L.length cap ∧ base ≤ g ∧ L.length ≤ cap ∧ Rk w g 0 L.length (fL L) := by
  obtain ⟨A, c, e, hl, hC⟩ := Kd.R_reads h
  obtain ⟨inner, h1, h2⟩ := Kd.R_own h
  rcases h2 with ⟨rfl, h0⟩ | ⟨g, cap, cur, hv, hg, hb, hn, hm, hs, ht⟩
  · exact .inl ⟨List.length_eq_zero_iff.1 h0, rfl⟩
  · refine .inr ⟨g, cap, hv, hg, hn, cur, hb, fun j _ hj => ?_⟩
    rw [e] at hv
    injection hv with hA _ _
    subst hA
    have hf : fL L j = L[j] := by unfold fL; rw [List.getD_eq_getElem?_getD, List.getElem?_eq_getElem hj]; rfl
    have hat := cells_at25 hC
    obtain ⟨g0, g1⟩ := flatC_get L j hj
    have c0 := hat _ _ g0
    have c1 := hat _ _ g1
    rw [add_plain, blk_cell hb] at c0 c1
    rw [hf]
    exact ⟨c0, c1⟩
theorem set_mid (x y : S25) (i m : Nat) (hi : i < m) : (List.replicate i y ++ List.replicate (m - i) x).set i y = List.replicate (i + 1) y ++ List.replicate (m - (i + 1)) x := by
  rw [List.set_append_right _ _ (by simp), List.length_replicate, Nat.sub_self, show m - i = (m - (i + 1)) + 1 by omega, List.replicate_succ, List.set_cons_zero, List.replicate_succ', List.append_assoc]
  rfl
theorem mid_len (x y : S25) (i m : Nat) (hi : i ≤ m) : (List.replicate i y ++ List.replicate (m - i) x).length = m := by simp; omega
theorem mid_get (x y : S25) (i m : Nat) (hi : i < m) : (List.replicate i y ++ List.replicate (m - i) x)[i]'(by rw [mid_len _ _ _ _ (by omega)]; exact hi) = x := by
  rw [List.getElem_append_right (by simp)]
  simp
theorem Rc.block {w w1 : World} {g : Nat} {L : List S25} (h : Rc w g L) (e : w1.heap[g]? = w.heap[g]?) : Rc w1 g L := e.trans h
theorem Rc.below {w w1 : World} {g : Nat} {L : List S25} (h : Rc w g L) (e : Below w.heap.size w w1) : Rc w1 g L := blk_below h e
theorem Rc.frozen {w : World} {g : Nat} {L : List S25} (h : Rc w g L) (o : Nat) : w.frozen? ⟨g, o, none⟩ = false := blk_frozen h o
theorem Rk_rep {w : World} {g k : Nat} {x : S25} (h : Rc w g (List.replicate k x)) : Rk w g 0 k (fun _ => x) := by
  refine ⟨_, h, fun j _ hj => ?_⟩
  obtain ⟨c0, c1⟩ := flatC_get (List.replicate k x) j (by simpa using hj)
  rw [List.getElem?_toArray, List.getElem?_toArray]
  rw [List.getElem_replicate] at c0 c1
  exact ⟨c0, c1⟩
theorem Rk.imp {w : World} {g i k : Nat} {f h : Nat → S25} (hr : Rk w g i k f) (e : ∀ j, i ≤ j → j < k → f j = h j) : Rk w g i k h := by
  obtain ⟨cur, hb, hc⟩ := hr
  exact ⟨cur, hb, fun j h1 h2 => by rw [← e j h1 h2]; exact hc j h1 h2⟩
theorem sameB_refl (f : Nat → S25) (n : Int) : sameB f f n n = true := (sameB_iff f f n n).2 ⟨fun _ _ => rfl, rfl⟩
theorem z_board (w : World) : (Instr.build 30 #[]).run Try.prog w = .ok (.agg (boardC (fun _ => z25) 0)) w := by kernel_rfl
end Go.Proofs.Ytkjjmmgngdpppaa
