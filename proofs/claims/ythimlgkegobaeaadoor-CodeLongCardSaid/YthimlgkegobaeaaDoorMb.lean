/- mask.Each: an iterator that hands on the observers of a mask, rising. -/
import Derived.RangeFuncNested
import Derived.RangeFuncBound
import Derived.RangeFuncCalls
import Derived.RangeFuncLeaves
import Derived.RangeFuncBox
import Derived.RangeFuncWrites
import Derived.Shelf.Abstract
import Derived.Shelf.RegionOpen
import Derived.Maps.AppendAt
import Derived.OwnWalkIn
import Derived.TacticsInMore
import Derived.LoopNIn
import Derived.LoopIn
import Derived.Test.YthimlgkegobaeaaDoorMa
namespace Go.Proofs.YthimlgkegobaeaaDoor
open Go.RowKit Go.Shelf Go.Proofs.YthimlgkegobaeaaDoorW.PrintWords Go.Proofs.YthimlgkegobaeaaDoorW.PrintLast Go.Proofs.YthimlgkegobaeaaDoorW.PrintMore
set_option linter.unusedVariables false
set_option linter.unusedSimpArgs false
attribute [local go_sem] Oper.semAt_some

/-- What an observer is handed on as. -/
def encF (x : Fin 32) : Array Value := #[.int .i64 (x.val : Int)]
theorem tab_keeps {n₀ : Nat} {W W' : World} (h : Below n₀ W W') (h0 : 2 < n₀) (hT : TabAt W) : TabAt W' := fun j hj => (h.cell (p := ⟨2, j, none⟩) h0).trans (hT j hj)
theorem left_and (x : Nat) (h0 : x ≠ 0) (h : x < 4294967296) : bits .and .u32 (x : Int) ((x : Int) - 1) = ((x &&& (x - 1) : Nat) : Int) := by
  rw [show ((x : Int) - 1) = ((x - 1 : Nat) : Int) by omega, u32_and_nat x (x - 1) h (by omega)]
def intN (v : Value) : Nat := match v with | .int _ n => n.toNat | _ => 0

set_option maxRecDepth 100000 in
set_option maxHeartbeats 4000000 in
theorem each1_in (n : Nat) (hn : 1 ≤ n) (l B n₀ : Nat) (h0 : 2 < n₀) (m : Nat) (hm : m < 4294967296) (J Jx : List (Fin 32) → World → Prop) (W : World) (hn₀ : n₀ ≤ W.heap.size) (hJ : AbidesFrom W.heap.size J)
    (hY : ∀ pre x W1, J pre W1 → pre.length < (obsF m).length → YieldAt Fence.wide (n - 1) Tryd.prog l (encF x) W1 fun e W' =>
      (e = .returned (.bool true) ∧ J (pre ++ [x]) W' ∧ Below n₀ W1 W') ∨ (e = .returned (.bool false) ∧ Jx (pre ++ [x]) W'))
    (hT : TabAt W) (hc : W.cell? ⟨B, 0, none⟩ = some (.int .u32 m)) (hj0 : J [] W) :
    CallsIn Fence.wide n Tryd.prog 82 #[.func (.yield l) #[] #[], .pointer (some ⟨B, 0, none⟩)] W fun e W' => (∃ v, e = .returned v) ∧ ((∃ xs, xs = obsF m ∧ J xs W') ∨ (∃ pre, pre <+: obsF m ∧ Jx pre W')) := by
  have HC := Aside0.mk hJ
  refine callsIn_of_wp Tryd.func82 rfl trivial ?_ rfl
  simp only [Tryd.ntmps82, List.size_toArray, List.length_cons, List.length_nil, Nat.reduceAdd, Nat.reduceSub, Array.replicate_succ, Array.replicate_zero, List.push_toArray, List.append_toArray, List.nil_append, List.cons_append]
  gi_wp2
  gi_loopw [3] (fun p wr => ∃ (pre : List (Fin 32)) (x : Nat), p = .int .u32 (x : Int) ∧ x < 4294967296 ∧ obsF m = pre ++ obsF x ∧ J pre wr ∧ TabAt wr) (fun p _ => intN p)
  case atStart => exact ⟨[], m, rfl, hm, rfl, hj0, hT⟩
  case round =>
    obtain ⟨pre, x, rfl, hx, hob, hJs, hTs⟩ := hrel
    by_cases hx0 : x = 0
    · subst hx0
      gi_wp2
      go_end0
      exact ⟨⟨_, rfl⟩, .inl ⟨pre, by rw [hob, obsF_zero, List.append_nil], hJs⟩⟩
    · have hst := obsF_step x hx0 hx
      obtain ⟨k, hk⟩ : ∃ k, k = (⟨Lib.ctz 32 x, (Lib.lowest_bit 32 x hx0 (by simpa using hx)).2⟩ : Fin 32) := ⟨_, rfl⟩
      have hkv : (Lib.ctz 32 x : Int) = (k.val : Int) := by rw [hk]
      rw [← hk] at hst
      have hxi : ¬ (x : Int) = 0 := by omega
      have hxb : ((x : Int) == 0) = false := by simpa using hx0
      have hand := left_and x hx0 hx
      have hand2 : IntKind.u32.wrap ((x : Int) - 1) = (x : Int) - 1 := IntWalk.u32_in _ (by omega)
      have KT := (callsIn_wide (n := n - 1)).2 (tz32_any x hx wr hTs)
      rw [hkv] at KT
      gi_wp2_with fail
      refine ⟨trivial, KT.mono ?_⟩
      rintro e w1 ⟨rfl, hb1⟩
      have hJ1 := HC.out pre wr w1 none hJs (grown_of_below hb1 none) (by nofun)
      have hT1 := hTs.below hb1
      have hlen : pre.length < (obsF m).length := by rw [hob, hst, List.length_append, List.length_cons]; omega
      obtain ⟨fn, tmps, assign, body, hy, hR⟩ := hY pre k w1 hJ1 hlen
      dsimp only [encF] at hy
      gi_wp2
      refine hR.mono ?_
      rintro e W3 (⟨rfl, hJ3, hk3⟩ | ⟨rfl, hJx3⟩)
      · gi_wp2
        refine ⟨⟨pre ++ [k], x &&& (x - 1), rfl, Nat.lt_of_le_of_lt Nat.and_le_left hx, by rw [hob, hst, List.append_assoc]; rfl, hJ3, tab_keeps hk3 h0 hT1⟩, ?_⟩
        show (((x &&& (x - 1) : Nat) : Int)).toNat < ((x : Nat) : Int).toNat
        have := off_lt x hx0
        omega
      · gi_wp2
        refine bodyPost_ret (results_none rfl _ _ _) rfl ?_
        exact ⟨⟨_, rfl⟩, .inr ⟨pre ++ [k], ⟨obsF (x &&& (x - 1)), by rw [hob, hst, List.append_assoc]; rfl⟩, hJx3⟩⟩
/-- **m.Each()**: the receiver is boxed; the function value captures the box. -/
theorem each_in (n : Nat) (m : Int) (w : World) :
    CallsIn Fence.wide n Tryd.prog 63 #[.int .u32 m] w fun e w' => e = .returned (.func (.func 82) #[] #[.pointer (some ⟨w.heap.size, 0, none⟩)]) ∧ ∃ row, w' = w.alloc (.cells #[.int .u32 m] row) := by
  refine callsIn_of_wp Tryd.func63 rfl trivial ?_ rfl
  simp only [Tryd.ntmps63, List.size_toArray, List.length_cons, List.length_nil, Nat.reduceAdd, Nat.reduceSub, Array.replicate_succ, Array.replicate_zero, List.push_toArray, List.append_toArray, List.nil_append, List.cons_append]
  gi_wp2
  go_ret
  exact ⟨rfl, _, rfl⟩
/-- The iterator's stops. -/
theorem each_stops (n : Nat) (hn : 1 ≤ n) (B n₀ : Nat) (h0 : 2 < n₀) (m : Nat) (hm : m < 4294967296) (w : World) (hB : B < w.heap.size) (hn₀ : n₀ ≤ w.heap.size) (hT : TabAt w) (hc : w.cell? ⟨B, 0, none⟩ = some (.int .u32 m)) :
    SeqStopsK Fence.wide n Tryd.prog 82 #[.pointer (some ⟨B, 0, none⟩)] encF (Below n₀) (fun ys => ys = obsF m) (fun pre => pre <+: obsF m) (obsF m).length w := fun l J Jx W hW hJ _ hY h0' => by
  exact each1_in n hn l B n₀ h0 m hm J Jx W (Nat.le_trans hn₀ hW.size) hJ hY (tab_keeps hW (Nat.lt_of_lt_of_le h0 hn₀) hT) ((hW.cell (p := ⟨B, 0, none⟩) hB).trans hc) h0'
end Go.Proofs.YthimlgkegobaeaaDoor
