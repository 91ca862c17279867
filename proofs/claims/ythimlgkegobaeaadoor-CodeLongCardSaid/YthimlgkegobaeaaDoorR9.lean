/-
  Contracts of reference functions, as the kit's print wrote them for this claim.
-/
import Derived.Test.YthimlgkegobaeaaDoorProg
import Derived.Below
import Derived.Deep.Draws
import Derived.Deep.AppendLies
import Derived.Maps.AppendAt
import Derived.OwnWalk
import Derived.Laws.BytesArg
import Derived.Laws.MakeOwn
import Derived.Laws.OwnMore
import Derived.Deep.OwnRows
import Derived.Tactics
import Derived.Lib.ConvBytes
import Derived.Laws.Slices
import Derived.WalkKit
import Derived.KernelRfl
import Derived.RowKit3
import Derived.Deep.LoopGhost
import Derived.Deep.QuietTactic
import Derived.BigQuiet
import Derived.WideLaws
import Derived.Deep.DeepCutAuto
import Derived.Deep.CutBlock
import Derived.Deep.RegionHeld3
import Derived.Laws.Rows
import Derived.Lib.AppendStr
import Derived.ArgAppend
import Derived.Laws.IdiomCopy
import Derived.OrdersHeld
import Derived.Laws.BitsLemmas
import Derived.RowKit
import Derived.Test.YthimlgkegobaeaaDoorWWords
import Derived.Test.YthimlgkegobaeaaDoorWLast
import Derived.Test.YthimlgkegobaeaaDoorWTab
import Derived.Test.YthimlgkegobaeaaDoorWFour
import Derived.Test.YthimlgkegobaeaaDoorWQPut
import Derived.Test.YthimlgkegobaeaaDoorWApart
import Derived.Test.YthimlgkegobaeaaDoorWArr
import Derived.Test.YthimlgkegobaeaaDoorWZeros
import Derived.Test.YthimlgkegobaeaaDoorWFoot
import Derived.Test.YthimlgkegobaeaaDoorWKept
import Derived.Test.YthimlgkegobaeaaDoorWShare
import Derived.Test.YthimlgkegobaeaaDoorWN
import Derived.Test.YthimlgkegobaeaaDoorWFootNe
import Derived.Test.YthimlgkegobaeaaDoorWAt
import Derived.Test.YthimlgkegobaeaaDoorWEqStruct
import Derived.Test.YthimlgkegobaeaaDoorWRepsOne
import Derived.Test.YthimlgkegobaeaaDoorWInv
import Derived.Test.YthimlgkegobaeaaDoorWInvWords
import Derived.Test.YthimlgkegobaeaaDoorWGuard
import Derived.Test.YthimlgkegobaeaaDoorWNEv
import Derived.Test.YthimlgkegobaeaaDoorWMore
import Derived.Test.YthimlgkegobaeaaDoorR
namespace Go.Proofs.YthimlgkegobaeaaDoor
open Go.RowKit Go.Proofs.YthimlgkegobaeaaDoorW.PrintWords Go.Proofs.YthimlgkegobaeaaDoorW.PrintLast Go.Proofs.YthimlgkegobaeaaDoorW.PrintMore
attribute [local go_sem] max2_int min2_int max_two min_two max_three min_three max_four min_four   -- for this text's walks alone
set_option linter.unusedVariables false
set_option linter.unusedSimpArgs false

/-! ### hoodwinklaw08_few: function 17 -/
def hoodwinklaw08_few.f (l0 : List (S25)) : Option ((List (S25))) := (some (([] : List (S25)) : List (S25))).bind fun y130 => (if 0 ≤ (mn (l0.length : Int) 110) then (if (mn (l0.length : Int) 110) ≤ (l0.length : Int) then ((some (l0.take ((mn (l0.length : Int) 110) : Int).toNat : List (S25))).bind fun y133 => (if y130.length + y133.length < 11728124029610 then (some (y130 ++ y133)) else (none))) else (none)) else (none))
set_option maxHeartbeats 8000000 in
set_option maxRecDepth 100000 in
theorem hoodwinklaw08_few.calls (A0 : Option Addr) (c0 : Nat) (l0 : List (S25)) (r : List (S25)) (w : World) (hr0 : Kd.C k25 w A0 l0.length l0) (hc0 : l0.length ≤ c0) (h : hoodwinklaw08_few.f l0 = some r) :
    Calls Tryd.prog 17 #[.slice A0 l0.length c0] w fun e w' => ∃ v0_ : Value, e = .returned (v0_) ∧ Kd.R k25 25 w' w.heap.size (fun _ => True) v0_ r ∧ Below w.heap.size w w' := by
  have HR0 := Aside0.mk hr0
  have HC0 := Aside0.mk hc0
  clear hr0 hc0
  have HB := Aside0.mk (Below.refl w.heap.size w)
  have H : ((some (([] : List (S25)) : List (S25))).bind fun y130 => (if 0 ≤ (mn (l0.length : Int) 110) then (if (mn (l0.length : Int) 110) ≤ (l0.length : Int) then ((some (l0.take ((mn (l0.length : Int) 110) : Int).toNat : List (S25))).bind fun y133 => (if y130.length + y133.length < 11728124029610 then (some (y130 ++ y133)) else (none))) else (none)) else (none))) = some r := h
  clear h
  obtain ⟨y130, hy130⟩ : ∃ y_ : List (S25), y_ = (([] : List (S25))) := ⟨_, rfl⟩
  replace H : (if 0 ≤ (mn (l0.length : Int) 110) then (if (mn (l0.length : Int) 110) ≤ (l0.length : Int) then ((some (l0.take ((mn (l0.length : Int) 110) : Int).toNat : List (S25))).bind fun y133 => (if y130.length + y133.length < 11728124029610 then (some (y130 ++ y133)) else (none))) else (none)) else (none)) = some r := by first | (rw [hy130]; with_reducible exact H) | (have H2_ := (Option.bind_some _ _).symm.trans H; rw [hy130]; with_reducible exact H2_) | (have H2_ := (Option.bind_some _ _).symm.trans H; with_reducible exact H2_) | with_reducible exact H | (rw [hy130]; exact H) | exact H
  have Ny130 := Aside0.mk hy130
  clear hy130
  obtain ⟨ji2, hji2⟩ : ∃ j_ : Int, (mn (l0.length : Int) 110) = j_ := ⟨_, rfl⟩
  replace H : (if 0 ≤ (ji2) then (if (ji2) ≤ (l0.length : Int) then ((some (l0.take ((ji2) : Int).toNat : List (S25))).bind fun y133 => (if y130.length + y133.length < 11728124029610 then (some (y130 ++ y133)) else (none))) else (none)) else (none)) = some r := by first | (rw [hji2] at H; exact H) | (simp only [hji2] at H ⊢; exact H)
  (try (have hji2h : ji2 ≤ 110 := by (rw [← hji2]; unfold mn; (repeat' split) <;> omega)))
  (try (have hji2g : ji2 ≤ 64 := by omega))
  (try (have hji2l : 0 ≤ ji2 := by (rw [← hji2]; unfold mn; (repeat' split) <;> omega)))
  (try (have hji2m : 0 ≤ ji2 := by omega))
  have hji2_ : (if 110 < (l0.length : Int) then 110 else (l0.length : Int)) = ji2 := hji2
  by_cases c3 : 0 ≤ (ji2)
  · rw [if_pos c3] at H
    have c3b0 := eq_true c3
    have c3b1 : decide (0 ≤ (ji2)) = true := decide_eq_true c3
    clear c3
    by_cases c4 : (ji2) ≤ (l0.length : Int)
    · rw [if_pos c4] at H
      have c4b0 := eq_true c4
      have c4b1 : decide ((ji2) ≤ (l0.length : Int)) = true := decide_eq_true c4
      clear c4
      obtain ⟨y133, hy133⟩ : ∃ y_ : List (S25), y_ = (l0.take ((ji2) : Int).toNat) := ⟨_, rfl⟩
      replace H : (if y130.length + y133.length < 11728124029610 then (some (y130 ++ y133)) else (none)) = some r := by first | (rw [hy133]; with_reducible exact H) | (have H2_ := (Option.bind_some _ _).symm.trans H; rw [hy133]; with_reducible exact H2_) | (have H2_ := (Option.bind_some _ _).symm.trans H; with_reducible exact H2_) | with_reducible exact H | (rw [hy133]; exact H) | exact H
      have Ny133 := Aside0.mk hy133
      clear hy133
      by_cases c5 : y130.length + y133.length < 11728124029610
      · rw [if_pos c5] at H
        have LMc5 := Aside0.mk c5
        clear c5
        obtain ⟨y137, hy137⟩ : ∃ y_ : List (S25), y_ = (y130 ++ y133) := ⟨_, rfl⟩
        replace H : (some y137) = some r := by first | (rw [hy137]; with_reducible exact H) | (have H2_ := (Option.bind_some _ _).symm.trans H; rw [hy137]; with_reducible exact H2_) | (have H2_ := (Option.bind_some _ _).symm.trans H; with_reducible exact H2_) | with_reducible exact H | (rw [hy137]; exact H) | exact H
        have Ny137 := Aside0.mk hy137
        clear hy137
        obtain rfl := Option.some.inj H
        go_enter Tryd.func17, Tryd.ntmps17
        go_wp2_with (first | ((with_reducible refine gate_dst (N := 3) rfl ?_); refine Kd.R_lit k25 _ 25 ?hg (N := 3) ?hd (xs := ([] : List (S25))) (inner := []) (ok := fun _ => True) (okp := fun _ => True) ?hr ?hp (fun _ hk => hk) trivial (Below.refl _ _) (Nat.le_refl _) (by simp) ?_; (case hd => rfl); (case hg => rfl); (case hr => first | (go_simp; done) | (go_simp; rfl)); (case hp => exact (Reps.none _ _)); intro v131 w6 ho7 hb hg_ hnew_; clear hg_ hnew_; (first | rw [← Ny130.out] at ho7 | (simp only [Int.reduceToNat] at ho7; rw [← Ny130.out] at ho7)); have n0_ := Aside0.mk (Kd.R_lower ho7 (below_size (by repeat (first | (with_reducible first | exact HB.out | apply below_alloc | apply pw_below_drewN | apply below_drew1) | exact HB.out)))); have n1_ := Aside0.mk (below_step (by repeat (first | (with_reducible first | exact HB.out | apply below_alloc | apply pw_below_drewN | apply below_drew1) | exact HB.out)) hb); clear HB; have HO132 := n0_; have HB := n1_; clear n0_ n1_; clear hb ho7; have q8 : ((ji2) : Int) ≤ ((l0.length : Int) : Int) := of_decide_eq_true (by first | (with_reducible assumption) | assumption); obtain ⟨i08, hi08, _, hsz8, _⟩ := info_parts info25; have hroom8 : l0.length ≤ c0 := HC0.out; have hC8 : Kd.C k25 _ A0 l0.length l0 := HR0.out; have hcut8 := cut_to (P := Tryd.prog) 32 25 .i64 Tryd.underlying32 hi08 A0 l0.length c0 (ji2) (of_decide_eq_true (by first | (with_reducible assumption) | assumption)) q8 hroom8; have hr8 := Kd.C_take (m := ((ji2) : Int).toNat) hC8 (by omega); have hy8 : y133.length = ((ji2) : Int).toNat := (by rw [Ny133.out, List.length_take]; omega); rw [← Ny133.out] at hr8; rw [← hy8] at hcut8; have HR136 := Aside0.mk hr8; have HC136 := Aside0.mk (show y133.length ≤ c0 from by omega); clear hr8 hC8 hroom8 hi08 hsz8; have KY8 := Aside0.mk hy8; clear hy8; replace q8 := eq_true q8) | ((with_reducible refine gate_builtin (b := .append) (xs := #[.tmp 3, .tmp 8]) rfl ?_); at_builtin; refine Kd.R_append_rows k25 (w0 := w) w.heap.size rfl (.tmp 3) (.tmp 8) 32 25 (.agg #[(.int .u8 0), (.int .u8 0), (.int .u8 0), (.int .u8 0), (.int .i32 0), (.int .u32 0)]) 12 rfl Tryd.underlying32 info25 rfl (by decide) (by omega) v131 y130 y133 _ _ _ (fun _ => True) (fun _ => False) rfl rfl ?aO ?aR (fun _ _ h => h) (fun _ h => h.elim) ?aF ?aB ?aS ?aL ?_; (case aR => repeat (first | exact (Kd.C_below HR136.out HB.out) | (with_reducible refine Kd.C_alloc ?_ _) | (with_reducible refine Kd.C_drewN ?_ _) | (with_reducible refine Kd.C_drew ?_))); (case aB => exact (by repeat (first | (with_reducible first | exact HB.out | apply below_alloc | apply pw_below_drewN | apply below_drew1) | exact HB.out))); (case aF => exact (fun _ _ => trivial)); (case aO => exact (by (with_reducible repeat (first | apply Kd.R_alloc | apply Kd.R_drewN | apply Kd.R_drew)); exact HO132.out)); (case aS => exact (below_size (by repeat (first | (with_reducible first | exact HB.out | apply below_alloc | apply pw_below_drewN | apply below_drew1) | exact HB.out)))); (case aL => have := LMc5.out; omega); intro v138 w9 ho hb hg hat; rw [← Ny137.out] at ho; have n0_ := Aside0.mk (hb); have n1_ := Aside0.mk (ho); clear HB; clear HO132; have HB := n0_; have HO139 := n1_; clear n0_ n1_; clear ho hb hg hat))
        go_ret
        exact ⟨_, by first | rfl | (simp [errW_none, errW_some] <;> rfl) | (simp only [← hji2]; first | rfl | (simp [errW_none, errW_some] <;> rfl)) | (simp [*, errW_none, errW_some] <;> rfl), by (with_reducible repeat (first | apply Kd.R_alloc | apply Kd.R_drewN | apply Kd.R_drew)); exact HO139.out, by repeat (first | (with_reducible first | exact HB.out | apply below_alloc | apply pw_below_drewN | apply below_drew1) | exact HB.out)⟩
      · rw [if_neg c5] at H
        exact absurd H (by simp)
    · rw [if_neg c4] at H
      exact absurd H (by simp)
  · rw [if_neg c3] at H
    exact absurd H (by simp)

end Go.Proofs.YthimlgkegobaeaaDoor
