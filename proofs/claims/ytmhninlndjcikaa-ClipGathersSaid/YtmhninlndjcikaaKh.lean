/- The document's basket: Held. -/
import Derived.Test.YtmhninlndjcikaaK3
namespace Go.Proofs.Ytmhninlndjcikaa
open Go.RowKit Go.Proofs.YtmhninlndjcikaaW.PrintWords Go.Proofs.YtmhninlndjcikaaW.PrintLast Go.Proofs.YtmhninlndjcikaaW.PrintMore
set_option linter.unusedVariables false
set_option linter.unusedSimpArgs false

/-- All bytes of some pieces. -/
def allD (L : List Pc) : List Int := (L.map (·.d)).flatten
theorem allD_take {L : List Pc} {j : Nat} (h : j < L.length) : allD (L.take (j + 1)) = allD (L.take j) ++ L[j].d := by
  unfold allD
  rw [List.take_succ_eq_append_getElem h, List.map_append, List.flatten_append]
  simp
theorem allD_le (L : List Pc) (j : Nat) : (allD (L.take j)).length ≤ (allD L).length := by
  have h : allD L = allD (L.take j) ++ allD (L.drop j) := by
    unfold allD
    rw [← List.flatten_append, ← List.map_append, List.take_append_drop]
  rw [h, List.length_append]; omega
/-- The block of the document's basket. -/
def Rk (w : World) (g : Nat) (v : Value) (sk : Bool) : Prop := w.heap[g]? = some (.cells #[v, .bool sk] 45 (0, 0))

set_option maxRecDepth 100000 in
set_option maxHeartbeats 2000000 in
theorem refheld_any (g : Nat) (Q : Option Addr) (n c : Nat) (L : List Pc) (sk : Bool) (w : World) (hk : Rk w g (.slice Q n c) sk) (hL : kP.C w Q n L) (hc : n ≤ c) (hlen : (allD L).length ≤ 100000) :
    Calls Try.prog 19 #[.pointer (some ⟨g, 0, none⟩)] w fun e w' => ∃ v, e = .returned v ∧ (Kd.int .u8).R 5 w' w.heap.size (fun _ => True) v (allD L) ∧ Below w.heap.size w w' := by
  have c0 := blk_cell hk 0
  have hLn : L.length = n := hL.1
  have hmx : n ≤ 9223372036854775807 := hL.2.1
  have HL := Aside0.mk hL
  have HLEN := Aside0.mk hlen
  have HC := Aside0.mk hc
  clear hk hL hlen hc
  go_enter Try.func19, Try.ntmps19
  go_wp2_with fail
  clear c0
  have hc := HC.out
  go_loopw [3, 11] (fun v3 v11 wr => ∃ j : Nat, j ≤ n ∧ v11 = .int .i64 j ∧ Aside0 ((Kd.int .u8).R 5 wr w.heap.size (fun _ => True) v3 (allD (L.take j)) ∧ Below w.heap.size w wr)) (fun _ v11 _ => n - (intOf v11).toNat)
  case atStart => exact ⟨0, by omega, rfl, ⟨by simpa [allD] using Kd.R_nil _ _ _ _ _, Below.refl _ _⟩⟩
  case round =>
    obtain ⟨j, hj, rfl, H⟩ := hrel
    by_cases hlt : j < n
    · obtain ⟨ad, B, c2, hQ, x0, x1, x2, hxc, hxd⟩ := piece_at (Kd.C_below HL.out H.out.2) j (by omega)
      have F6 := Aside0.mk (allD_take (L := L) (j := j) (by omega))
      have hle := allD_le L (j + 1)
      rw [F6.out, List.length_append] at hle
      have HLE := Aside0.mk (show ((allD (L.take j)).length + (L[j]'(by omega)).d.length) * 1 ≤ 140737488355328 by have := HLEN.out; omega)
      generalize L[j]'(by omega) = x at *
      obtain ⟨fb, lb, q⟩ := x
      simp only at x0 x1 x2 hxc hxd F6 HLE
      have hB4 := Aside0.mk (below_alloc H.out.2 (.cells #[.bool fb, .bool lb, .slice B q.length c2] 49))
      have hO4 := Aside0.mk (Kd.R_below H.out.1 (below_alloc (Below.refl _ _) (.cells #[.bool fb, .bool lb, .slice B q.length c2] 49)))
      have hD4 := Aside0.mk (Kd.C_alloc hxd (.cells #[.bool fb, .bool lb, .slice B q.length c2] 49))
      generalize q.length = dl at *
      subst hQ
      have d2 : decide (j < n) = true := decide_eq_true hlt
      clear hxd hle
      go_wp2_with (at_builtin; go_loud (refine R_app .u8 (w0 := w) w.heap.size rfl (.tmp 15) (.tmp 17) 24 5 1 rfl Try.underlying24 wx_info5 (by decide) u3 (allD (L.take j)) q B dl c2 (fun _ => True) rfl rfl hO4.out hD4.out (fun _ _ => trivial) hB4.out hB4.out.size HLE.out ?_))
      intro v1 w5 ho hb _ _
      rw [← F6.out] at ho
      have HO := Aside0.mk ho
      have HB := Aside0.mk hb
      clear ho hb
      go_wp2_with fail
      go_roundw
      case rel => exact ⟨j + 1, by omega, by go_num, ⟨HO.out, HB.out⟩⟩
      case measure => simp [intOf]; omega
    · have hjn : j = n := by omega
      have HO := Aside0.mk H.out.1
      rw [List.take_of_length_le (by omega)] at HO
      have HB := Aside0.mk H.out.2
      have d2 : decide (j < n) = false := decide_eq_false hlt
      clear H hjn
      go_wp2_with fail
      go_ret
      exact ⟨_, rfl, HO.out, HB.out⟩
end Go.Proofs.Ytmhninlndjcikaa
