/-
  Contracts of reference functions, as the kit's print wrote them for this claim.
-/
import Derived.Test.YthafmgcflbdjpaaDoorProg
import Derived.Below
import Derived.Deep.Draws
import Derived.Deep.AppendLies
import Derived.Maps.AppendAt
import Derived.OwnWalk
import Derived.Laws.BytesArg
import Derived.Laws.MakeOwn
import Derived.Laws.OwnMore
import Derived.Deep.OwnRows
import Derived.Tactics
import Derived.Lib.ConvBytes
import Derived.Laws.Slices
import Derived.WalkKit
import Derived.KernelRfl
import Derived.RowKit3
import Derived.Deep.LoopGhost
import Derived.Deep.QuietTactic
import Derived.BigQuiet
import Derived.WideLaws
import Derived.Deep.DeepCutAuto
import Derived.Deep.CutBlock
import Derived.Deep.RegionHeld3
import Derived.Laws.Rows
import Derived.Lib.AppendStr
import Derived.ArgAppend
import Derived.Laws.IdiomCopy
import Derived.OrdersHeld
import Derived.Laws.BitsLemmas
import Derived.RowKit
import Derived.Test.YthafmgcflbdjpaaDoorWWords
import Derived.Test.YthafmgcflbdjpaaDoorWLast
import Derived.Test.YthafmgcflbdjpaaDoorWTab
import Derived.Test.YthafmgcflbdjpaaDoorWFour
import Derived.Test.YthafmgcflbdjpaaDoorWQPut
import Derived.Test.YthafmgcflbdjpaaDoorWApart
import Derived.Test.YthafmgcflbdjpaaDoorWArr
import Derived.Test.YthafmgcflbdjpaaDoorWZeros
import Derived.Test.YthafmgcflbdjpaaDoorWFoot
import Derived.Test.YthafmgcflbdjpaaDoorWKept
import Derived.Test.YthafmgcflbdjpaaDoorWShare
import Derived.Test.YthafmgcflbdjpaaDoorWN
import Derived.Test.YthafmgcflbdjpaaDoorWFootNe
import Derived.Test.YthafmgcflbdjpaaDoorWAt
import Derived.Test.YthafmgcflbdjpaaDoorWEqStruct
import Derived.Test.YthafmgcflbdjpaaDoorWRepsOne
import Derived.Test.YthafmgcflbdjpaaDoorWInv
import Derived.Test.YthafmgcflbdjpaaDoorWInvWords
import Derived.Test.YthafmgcflbdjpaaDoorWGuard
import Derived.Test.YthafmgcflbdjpaaDoorWNEv
import Derived.Test.YthafmgcflbdjpaaDoorWMore
import Derived.Test.YthafmgcflbdjpaaDoorR
namespace Go.Proofs.YthafmgcflbdjpaaDoor
open Go.RowKit Go.Proofs.YthafmgcflbdjpaaDoorW.PrintWords Go.Proofs.YthafmgcflbdjpaaDoorW.PrintLast Go.Proofs.YthafmgcflbdjpaaDoorW.PrintMore
attribute [local go_sem] max2_int min2_int max_two min_two max_three min_three max_four min_four   -- for this text's walks alone
set_option linter.unusedVariables false
set_option linter.unusedSimpArgs false

/-! ### mask_Mask_Within: function 20 -/
def mask_Mask_Within.f (a0 : Int) (a1 : Int) : Option (Bool) := some ((Go.bits .andNot .u32 a0 a1) == 0)
set_option maxHeartbeats 8000000 in
set_option maxRecDepth 100000 in
theorem mask_Mask_Within.calls (a0 : Int) (a1 : Int) (r : Bool) (w : World) (h : mask_Mask_Within.f a0 a1 = some r) :
    Calls Tryd.prog 20 #[.int .u32 a0, .int .u32 a1] w fun e w' => e = .returned (.bool r) ∧ Drawn0 w w' := by
  have H : (some ((Go.bits .andNot .u32 a0 a1) == 0)) = some r := h
  clear h
  obtain rfl := Option.some.inj H
  go_enter Tryd.func20, Tryd.ntmps20
  go_wp2
  go_ret
  exact ⟨by first | rfl | (simp; done) | (simp [*]; done), by repeat (first | exact Drawn0.refl _ | apply Drawn0.step)⟩

/-! ### mask_Mask_Less: function 22 -/
def mask_Mask_Less.f (a0 : Int) (a1 : Int) : Option (Int) := some (Go.bits .andNot .u32 a0 a1)
set_option maxHeartbeats 8000000 in
set_option maxRecDepth 100000 in
theorem mask_Mask_Less.calls (a0 : Int) (a1 : Int) (r : Int) (w : World) (h : mask_Mask_Less.f a0 a1 = some r) :
    Calls Tryd.prog 22 #[.int .u32 a0, .int .u32 a1] w fun e w' => e = .returned (.int .u32 r) ∧ Drawn0 w w' := by
  have H : (some (Go.bits .andNot .u32 a0 a1)) = some r := h
  clear h
  obtain rfl := Option.some.inj H
  go_enter Tryd.func22, Tryd.ntmps22
  go_wp2
  go_ret
  exact ⟨by first | rfl | (simp; done) | (simp [*]; done), by repeat (first | exact Drawn0.refl _ | apply Drawn0.step)⟩

/-! ### mask_Mask_Meet: function 23 -/
def mask_Mask_Meet.l0 : Nat → Int → List Int → Int → Int → Option (Int)
  | 0, _, _, _, _ => none
  | k + 1, x0, x7, x8, x9 => if x9 < x8 then (if 0 ≤ x9 then (if x9 < (x7.length : Int) then (mask_Mask_Meet.l0 k (Go.bits .and .u32 x0 (rd x7 x9)) x7 x8 (wrap64 (x9 + 1))) else (none)) else (none)) else (some x0)
def mask_Mask_Meet.f (k : Nat) (a0 : Int) (l1 : List Int) : Option (Int) := mask_Mask_Meet.l0 k a0 l1 (l1.length : Int) 0
theorem mask_Mask_Meet.mono_l : ∀ k, (∀ y0 y1 y2 y3, LeO (mask_Mask_Meet.l0 k y0 y1 y2 y3) (mask_Mask_Meet.l0 (k + 1) y0 y1 y2 y3))
  | 0 => fun _ _ _ _ r h => by simp [mask_Mask_Meet.l0] at h
  | k + 1 => by
    have ih0 := mask_Mask_Meet.mono_l k
    · intro y0 y1 y2 y3
      unfold mask_Mask_Meet.l0
      repeat' first
      | (with_reducible exact ih0 _ _ _ _)
      | (with_reducible exact LeO.refl _)
      | (with_reducible exact LeO.none _)
      | (with_reducible refine LeO.ite ?_ ?_)
      | (with_reducible refine LeO.bind ?_ (fun _ => ?_))
      | exact ih0 _ _ _ _
      | exact LeO.none _
      | refine LeO.ite ?_ ?_
      | refine LeO.bind ?_ (fun _ => ?_)
theorem mask_Mask_Meet.mono : ∀ a0 a1 k, LeO (mask_Mask_Meet.f k a0 a1) (mask_Mask_Meet.f (k + 1) a0 a1) := by
  intro a0 a1 k
  have ih0 := mask_Mask_Meet.mono_l k
  unfold mask_Mask_Meet.f
  repeat' first
      | (with_reducible exact ih0 _ _ _ _)
      | (with_reducible exact LeO.refl _)
      | (with_reducible exact LeO.none _)
      | (with_reducible refine LeO.ite ?_ ?_)
      | (with_reducible refine LeO.bind ?_ (fun _ => ?_))
      | exact ih0 _ _ _ _
      | exact LeO.none _
      | refine LeO.ite ?_ ?_
      | refine LeO.bind ?_ (fun _ => ?_)
set_option maxHeartbeats 8000000 in
set_option maxRecDepth 100000 in
theorem mask_Mask_Meet.calls (k : Nat) (a0 : Int) (A1 : Option Addr) (c1 : Nat) (l1 : List Int) (r : Int) (w : World) (hr1 : Kd.C (Kd.int .u32) w A1 l1.length l1) (hc1 : l1.length ≤ c1) (h : mask_Mask_Meet.f k a0 l1 = some r) :
    Calls Tryd.prog 23 #[.int .u32 a0, .slice A1 l1.length c1] w fun e w' => e = .returned (.int .u32 r) ∧ Drawn0 w w' := by
  have HR1 := Aside0.mk hr1
  have HC1 := Aside0.mk hc1
  clear hr1 hc1
  have H : (mask_Mask_Meet.l0 k a0 l1 (l1.length : Int) 0) = some r := h
  clear h
  have H' := Aside0.mk H
  clear H
  go_enter Tryd.func23, Tryd.ntmps23
  go_wp2
  go_loopg [0, 9] k (fun kq v0 v9 w' => ∃ (x0_1 : Int) (x9_1 : Int), v0 = .int .u32 x0_1 ∧ v9 = .int .i64 x9_1 ∧ Aside0 (mask_Mask_Meet.l0 kq x0_1 l1 (l1.length : Int) x9_1 = some r) ∧ Aside0 (kq ≤ k) ∧ Drawn0 w w')
  case atStart => exact ⟨(a0), (0), (by first | rfl | (simp; done) | (simp [*]; done)), (by first | rfl | (simp; done) | (simp [*]; done)), H', ⟨Nat.le_refl _⟩, by repeat (first | exact Drawn0.refl _ | apply Drawn0.step)⟩
  case round =>
    clear H'
    try clear c1
    try clear c2
    try clear p2
    obtain ⟨x0_1, x9_1, rfl, rfl, HA, HK1, ⟨m1, rfl⟩⟩ := hrel
    cases gk with
    | zero => exact absurd HA.out (by simp [mask_Mask_Meet.l0])
    | succ k1 =>
      have H := HA.out
      clear HA
      simp only [mask_Mask_Meet.l0] at H
      by_cases c3 : x9_1 < (l1.length : Int)
      · rw [if_pos c3] at H
        have c3b0 : decide (x9_1 < (l1.length : Int)) = true := decide_eq_true c3
        clear c3
        by_cases c4 : 0 ≤ x9_1
        · rw [if_pos c4] at H
          have c4b0 : decide (0 ≤ x9_1) = true := decide_eq_true c4
          clear c4
          by_cases c5 : x9_1 < (l1.length : Int)
          · rw [if_pos c5] at H
            have c5b0 : decide (x9_1 < (l1.length : Int)) = true := decide_eq_true c5
            clear c5
            have H' := Aside0.mk H
            clear H
            have p141 : 0 ≤ (x9_1 : Int) := of_decide_eq_true (by first | (with_reducible assumption) | assumption)
            have q141 : x9_1 < (l1.length : Int) := of_decide_eq_true (by first | (with_reducible assumption) | assumption)
            obtain ⟨ad141, e141, hx141_0⟩ := Kd.at_int HR1.out x9_1 p141 q141
            cases e141
            replace p141 := eq_true p141
            replace q141 := eq_true q141
            go_wp2
            go_roundg k1
            case measure => have := HK1.out; omega
            case rel => exact ⟨(Go.bits .and .u32 x0_1 (rd l1 x9_1)), (wrap64 (x9_1 + 1)), (by first | rfl | (simp; done) | (simp [*]; done)), (by first | rfl | (simp; done) | (simp [*]; done)), H', ⟨by have := HK1.out; omega⟩, by repeat (first | exact Drawn0.refl _ | apply Drawn0.step)⟩
          · rw [if_neg c5] at H
            exact absurd H (by simp)
        · rw [if_neg c4] at H
          exact absurd H (by simp)
      · rw [if_neg c3] at H
        have c3b0 : decide (x9_1 < (l1.length : Int)) = false := decide_eq_false c3
        clear c3
        obtain rfl := Option.some.inj H
        go_wp2
        go_ret
        exact ⟨by first | rfl | (simp; done) | (simp [*]; done), by repeat (first | exact Drawn0.refl _ | apply Drawn0.step)⟩

/-! ### mask_Mask_Join: function 24 -/
def mask_Mask_Join.l0 : Nat → Int → List Int → Int → Int → Option (Int)
  | 0, _, _, _, _ => none
  | k + 1, x0, x7, x8, x9 => if x9 < x8 then (if 0 ≤ x9 then (if x9 < (x7.length : Int) then (mask_Mask_Join.l0 k (Go.bits .or .u32 x0 (rd x7 x9)) x7 x8 (wrap64 (x9 + 1))) else (none)) else (none)) else (some x0)
def mask_Mask_Join.f (k : Nat) (a0 : Int) (l1 : List Int) : Option (Int) := mask_Mask_Join.l0 k a0 l1 (l1.length : Int) 0
theorem mask_Mask_Join.mono_l : ∀ k, (∀ y0 y1 y2 y3, LeO (mask_Mask_Join.l0 k y0 y1 y2 y3) (mask_Mask_Join.l0 (k + 1) y0 y1 y2 y3))
  | 0 => fun _ _ _ _ r h => by simp [mask_Mask_Join.l0] at h
  | k + 1 => by
    have ih0 := mask_Mask_Join.mono_l k
    · intro y0 y1 y2 y3
      unfold mask_Mask_Join.l0
      repeat' first
      | (with_reducible exact ih0 _ _ _ _)
      | (with_reducible exact LeO.refl _)
      | (with_reducible exact LeO.none _)
      | (with_reducible refine LeO.ite ?_ ?_)
      | (with_reducible refine LeO.bind ?_ (fun _ => ?_))
      | exact ih0 _ _ _ _
      | exact LeO.none _
      | refine LeO.ite ?_ ?_
      | refine LeO.bind ?_ (fun _ => ?_)
theorem mask_Mask_Join.mono : ∀ a0 a1 k, LeO (mask_Mask_Join.f k a0 a1) (mask_Mask_Join.f (k + 1) a0 a1) := by
  intro a0 a1 k
  have ih0 := mask_Mask_Join.mono_l k
  unfold mask_Mask_Join.f
  repeat' first
      | (with_reducible exact ih0 _ _ _ _)
      | (with_reducible exact LeO.refl _)
      | (with_reducible exact LeO.none _)
      | (with_reducible refine LeO.ite ?_ ?_)
      | (with_reducible refine LeO.bind ?_ (fun _ => ?_))
      | exact ih0 _ _ _ _
      | exact LeO.none _
      | refine LeO.ite ?_ ?_
      | refine LeO.bind ?_ (fun _ => ?_)
set_option maxHeartbeats 8000000 in
set_option maxRecDepth 100000 in
theorem mask_Mask_Join.calls (k : Nat) (a0 : Int) (A1 : Option Addr) (c1 : Nat) (l1 : List Int) (r : Int) (w : World) (hr1 : Kd.C (Kd.int .u32) w A1 l1.length l1) (hc1 : l1.length ≤ c1) (h : mask_Mask_Join.f k a0 l1 = some r) :
    Calls Tryd.prog 24 #[.int .u32 a0, .slice A1 l1.length c1] w fun e w' => e = .returned (.int .u32 r) ∧ Drawn0 w w' := by
  have HR1 := Aside0.mk hr1
  have HC1 := Aside0.mk hc1
  clear hr1 hc1
  have H : (mask_Mask_Join.l0 k a0 l1 (l1.length : Int) 0) = some r := h
  clear h
  have H' := Aside0.mk H
  clear H
  go_enter Tryd.func24, Tryd.ntmps24
  go_wp2
  go_loopg [0, 9] k (fun kq v0 v9 w' => ∃ (x0_1 : Int) (x9_1 : Int), v0 = .int .u32 x0_1 ∧ v9 = .int .i64 x9_1 ∧ Aside0 (mask_Mask_Join.l0 kq x0_1 l1 (l1.length : Int) x9_1 = some r) ∧ Aside0 (kq ≤ k) ∧ Drawn0 w w')
  case atStart => exact ⟨(a0), (0), (by first | rfl | (simp; done) | (simp [*]; done)), (by first | rfl | (simp; done) | (simp [*]; done)), H', ⟨Nat.le_refl _⟩, by repeat (first | exact Drawn0.refl _ | apply Drawn0.step)⟩
  case round =>
    clear H'
    try clear c1
    try clear c2
    try clear p2
    obtain ⟨x0_1, x9_1, rfl, rfl, HA, HK1, ⟨m1, rfl⟩⟩ := hrel
    cases gk with
    | zero => exact absurd HA.out (by simp [mask_Mask_Join.l0])
    | succ k1 =>
      have H := HA.out
      clear HA
      simp only [mask_Mask_Join.l0] at H
      by_cases c3 : x9_1 < (l1.length : Int)
      · rw [if_pos c3] at H
        have c3b0 : decide (x9_1 < (l1.length : Int)) = true := decide_eq_true c3
        clear c3
        by_cases c4 : 0 ≤ x9_1
        · rw [if_pos c4] at H
          have c4b0 : decide (0 ≤ x9_1) = true := decide_eq_true c4
          clear c4
          by_cases c5 : x9_1 < (l1.length : Int)
          · rw [if_pos c5] at H
            have c5b0 : decide (x9_1 < (l1.length : Int)) = true := decide_eq_true c5
            clear c5
            have H' := Aside0.mk H
            clear H
            have p142 : 0 ≤ (x9_1 : Int) := of_decide_eq_true (by first | (with_reducible assumption) | assumption)
            have q142 : x9_1 < (l1.length : Int) := of_decide_eq_true (by first | (with_reducible assumption) | assumption)
            obtain ⟨ad142, e142, hx142_0⟩ := Kd.at_int HR1.out x9_1 p142 q142
            cases e142
            replace p142 := eq_true p142
            replace q142 := eq_true q142
            go_wp2
            go_roundg k1
            case measure => have := HK1.out; omega
            case rel => exact ⟨(Go.bits .or .u32 x0_1 (rd l1 x9_1)), (wrap64 (x9_1 + 1)), (by first | rfl | (simp; done) | (simp [*]; done)), (by first | rfl | (simp; done) | (simp [*]; done)), H', ⟨by have := HK1.out; omega⟩, by repeat (first | exact Drawn0.refl _ | apply Drawn0.step)⟩
          · rw [if_neg c5] at H
            exact absurd H (by simp)
        · rw [if_neg c4] at H
          exact absurd H (by simp)
      · rw [if_neg c3] at H
        have c3b0 : decide (x9_1 < (l1.length : Int)) = false := decide_eq_false c3
        clear c3
        obtain rfl := Option.some.inj H
        go_wp2
        go_ret
        exact ⟨by first | rfl | (simp; done) | (simp [*]; done), by repeat (first | exact Drawn0.refl _ | apply Drawn0.step)⟩

end Go.Proofs.YthafmgcflbdjpaaDoor
