/-
  Contracts of reference functions, as the kit's print wrote them for this claim.
-/
import Derived.Test.YtmhninlndjcikaaProg
import Derived.Below
import Derived.Deep.Draws
import Derived.Deep.AppendLies
import Derived.Maps.AppendAt
import Derived.OwnWalk
import Derived.Laws.BytesArg
import Derived.Laws.MakeOwn
import Derived.Laws.OwnMore
import Derived.Deep.OwnRows
import Derived.Tactics
import Derived.Lib.ConvBytes
import Derived.Laws.Slices
import Derived.WalkKit
import Derived.KernelRfl
import Derived.RowKit3
import Derived.Deep.LoopGhost
import Derived.Deep.QuietTactic
import Derived.BigQuiet
import Derived.WideLaws
import Derived.Deep.DeepCutAuto
import Derived.Deep.CutBlock
import Derived.Deep.RegionHeld3
import Derived.Laws.Rows
import Derived.Lib.AppendStr
import Derived.ArgAppend
import Derived.Laws.IdiomCopy
import Derived.OrdersHeld
import Derived.Laws.BitsLemmas
import Derived.RowKit
import Derived.Test.YtmhninlndjcikaaWWords
import Derived.Test.YtmhninlndjcikaaWLast
import Derived.Test.YtmhninlndjcikaaWTab
import Derived.Test.YtmhninlndjcikaaWFour
import Derived.Test.YtmhninlndjcikaaWQPut
import Derived.Test.YtmhninlndjcikaaWApart
import Derived.Test.YtmhninlndjcikaaWArr
import Derived.Test.YtmhninlndjcikaaWZeros
import Derived.Test.YtmhninlndjcikaaWFoot
import Derived.Test.YtmhninlndjcikaaWKept
import Derived.Test.YtmhninlndjcikaaWShare
import Derived.Test.YtmhninlndjcikaaWN
import Derived.Test.YtmhninlndjcikaaWFootNe
import Derived.Test.YtmhninlndjcikaaWAt
import Derived.Test.YtmhninlndjcikaaWEqStruct
import Derived.Test.YtmhninlndjcikaaWRepsOne
import Derived.Test.YtmhninlndjcikaaWInv
import Derived.Test.YtmhninlndjcikaaWInvWords
import Derived.Test.YtmhninlndjcikaaWGuard
import Derived.Test.YtmhninlndjcikaaWNEv
import Derived.Test.YtmhninlndjcikaaWMore
import Derived.Test.YtmhninlndjcikaaR
namespace Go.Proofs.Ytmhninlndjcikaa
open Go.RowKit Go.Proofs.YtmhninlndjcikaaW.PrintWords Go.Proofs.YtmhninlndjcikaaW.PrintLast Go.Proofs.YtmhninlndjcikaaW.PrintMore
attribute [local go_sem] max2_int min2_int max_two min_two max_three min_three max_four min_four   -- for this text's walks alone
set_option linter.unusedVariables false
set_option linter.unusedSimpArgs false

theorem info49 : (Try.prog.info? 49).map (fun i => (i.zero, i.size, i.bytes)) = some (some (.agg #[(.bool false), (.bool false), (.slice none 0 0)]), 3, 32) := by kernel_rfl
/-! ### hoodwinkref12_Split: function 21 -/
def hoodwinkref12_Split.l0 : Nat → List (S49) → List Int → Int → Int → Option ((List (S49)))
  | 0, _, _, _, _ => none
  | k + 1, x3, x9, x10, x11 => if x11 < x10 then (if 0 ≤ x11 then (if x11 < (x9.length : Int) then (if 0 ≤ (wrap64 ((x3.length : Int) - 1)) then (if (wrap64 ((x3.length : Int) - 1)) < (x3.length : Int) then (if (((rd_T49 x3 (wrap64 ((x3.length : Int) - 1))).f2).length : Int) = 64 then (if x3.length < 4398046511104 then ((some (x3 ++ [(⟨false, false, ([] : List Int)⟩ : S49)] : List (S49))).bind fun y114 => (if 0 ≤ (wrap64 ((y114.length : Int) - 1)) then (if (wrap64 ((y114.length : Int) - 1)) < (y114.length : Int) then (if ((rd_T49 y114 (wrap64 ((y114.length : Int) - 1))).f2).length < 140737488355328 then (hoodwinkref12_Split.l0 k (y114.set ((wrap64 ((y114.length : Int) - 1)) : Int).toNat (⟨(rd_T49 y114 (wrap64 ((y114.length : Int) - 1))).f0, (rd_T49 y114 (wrap64 ((y114.length : Int) - 1))).f1, (((rd_T49 y114 (wrap64 ((y114.length : Int) - 1))).f2) ++ [rd x9 x11])⟩ : S49)) x9 x10 (wrap64 (x11 + 1))) else (none)) else (none)) else (none))) else (none)) else (if ((rd_T49 x3 (wrap64 ((x3.length : Int) - 1))).f2).length < 140737488355328 then (hoodwinkref12_Split.l0 k (x3.set ((wrap64 ((x3.length : Int) - 1)) : Int).toNat (⟨(rd_T49 x3 (wrap64 ((x3.length : Int) - 1))).f0, (rd_T49 x3 (wrap64 ((x3.length : Int) - 1))).f1, (((rd_T49 x3 (wrap64 ((x3.length : Int) - 1))).f2) ++ [rd x9 x11])⟩ : S49)) x9 x10 (wrap64 (x11 + 1))) else (none))) else (none)) else (none)) else (none)) else (none)) else (if 0 ≤ (wrap64 ((x3.length : Int) - 1)) then (if (wrap64 ((x3.length : Int) - 1)) < (x3.length : Int) then (some (x3.set ((wrap64 ((x3.length : Int) - 1)) : Int).toNat (⟨(rd_T49 x3 (wrap64 ((x3.length : Int) - 1))).f0, true, (rd_T49 x3 (wrap64 ((x3.length : Int) - 1))).f2⟩ : S49))) else (none)) else (none))
def hoodwinkref12_Split.f (k : Nat) (l0 : List Int) : Option ((List (S49))) := hoodwinkref12_Split.l0 k (([(⟨true, false, ([] : List Int)⟩ : S49)] : List (S49))) l0 (l0.length : Int) 0
theorem hoodwinkref12_Split.mono_l : ∀ k, (∀ y0 y1 y2 y3, LeO (hoodwinkref12_Split.l0 k y0 y1 y2 y3) (hoodwinkref12_Split.l0 (k + 1) y0 y1 y2 y3))
  | 0 => fun _ _ _ _ r h => by simp [hoodwinkref12_Split.l0] at h
  | k + 1 => by
    have ih0 := hoodwinkref12_Split.mono_l k
    · intro y0 y1 y2 y3
      unfold hoodwinkref12_Split.l0
      repeat' first
      | (with_reducible exact ih0 _ _ _ _)
      | (with_reducible exact LeO.refl _)
      | (with_reducible exact LeO.none _)
      | (with_reducible refine LeO.ite ?_ ?_)
      | (with_reducible refine LeO.bind ?_ (fun _ => ?_))
      | exact ih0 _ _ _ _
      | exact LeO.none _
      | refine LeO.ite ?_ ?_
      | refine LeO.bind ?_ (fun _ => ?_)
theorem hoodwinkref12_Split.mono : ∀ a0 k, LeO (hoodwinkref12_Split.f k a0) (hoodwinkref12_Split.f (k + 1) a0) := by
  intro a0 k
  have ih0 := hoodwinkref12_Split.mono_l k
  unfold hoodwinkref12_Split.f
  repeat' first
      | (with_reducible exact ih0 _ _ _ _)
      | (with_reducible exact LeO.refl _)
      | (with_reducible exact LeO.none _)
      | (with_reducible refine LeO.ite ?_ ?_)
      | (with_reducible refine LeO.bind ?_ (fun _ => ?_))
      | exact ih0 _ _ _ _
      | exact LeO.none _
      | refine LeO.ite ?_ ?_
      | refine LeO.bind ?_ (fun _ => ?_)
set_option maxHeartbeats 8000000 in
set_option maxRecDepth 100000 in
theorem hoodwinkref12_Split.calls (k : Nat) (A0 : Option Addr) (c0 : Nat) (l0 : List Int) (r : List (S49)) (w : World) (hr0 : Kd.C (Kd.int .u8) w A0 l0.length l0) (hc0 : l0.length ≤ c0) (h : hoodwinkref12_Split.f k l0 = some r) :
    Calls Try.prog 21 #[.slice A0 l0.length c0] w fun e w' => ∃ v0_ : Value, e = .returned (v0_) ∧ Kd.S k49 49 w' w.heap.size (fun _ => True) v0_ r ∧ Below w.heap.size w w' := by
  have hu49 := Try.underlying49
  have HR0 := Aside0.mk hr0
  have HC0 := Aside0.mk hc0
  clear hr0 hc0
  have HB := Aside0.mk (Below.refl w.heap.size w)
  have H : (hoodwinkref12_Split.l0 k (([(⟨true, false, ([] : List Int)⟩ : S49)] : List (S49))) l0 (l0.length : Int) 0) = some r := h
  clear h
  obtain ⟨y109, hy109⟩ : ∃ y_ : List (S49), y_ = (([(⟨true, false, ([] : List Int)⟩ : S49)] : List (S49))) := ⟨_, rfl⟩
  replace H : (hoodwinkref12_Split.l0 k y109 l0 (l0.length : Int) 0) = some r := by first | (rw [hy109]; with_reducible exact H) | (have H2_ := (Option.bind_some _ _).symm.trans H; rw [hy109]; with_reducible exact H2_) | (have H2_ := (Option.bind_some _ _).symm.trans H; with_reducible exact H2_) | with_reducible exact H | (rw [hy109]; exact H) | exact H
  have Ny109 := Aside0.mk hy109
  clear hy109
  have H' := Aside0.mk H
  clear H
  go_enter Try.func21, Try.ntmps21
  go_wp2_with (first | ((with_reducible refine gate_dst (N := 8) rfl ?_); refine Kd.S_lit k49 _ 49 ?hg (N := 8) ?hd (xs := ([(⟨true, false, ([] : List Int)⟩ : S49)] : List (S49))) (inner := [.bool true, .bool false, .slice none 0 0]) (ok := fun _ => True) (okp := fun _ => True) ?hr ?hp (fun _ hk => hk) trivial (Below.refl _ _) (Nat.le_refl _) (by simp) ?_; (case hd => rfl); (case hg => rfl); (case hr => first | (go_simp; done) | (go_simp; rfl)); (case hp => exact (Reps.c3 (show Kd.M k49 _ _ _ (⟨true, false, ([] : List Int)⟩ : S49) [.bool true, .bool false, .slice none 0 0] from (k49_mkM _ _ _ (⟨true, false, ([] : List Int)⟩ : S49) (Kd.R_nil _ _ _ _ _))) (Reps.none _ _))); intro v110 w2 ho3 hb hg_ hnew_; clear hg_ hnew_; (first | rw [← Ny109.out] at ho3 | (simp only [Int.reduceToNat] at ho3; rw [← Ny109.out] at ho3)); have n0_ := Aside0.mk (Kd.S_lower ho3 (below_size (by repeat (first | (with_reducible first | exact HB.out | apply below_alloc | apply pw_below_drewN | apply below_drew1) | exact HB.out)))); have n1_ := Aside0.mk (below_step (by repeat (first | (with_reducible first | exact HB.out | apply below_alloc | apply pw_below_drewN | apply below_drew1) | exact HB.out)) hb); clear HB; have HO111 := n0_; have HB := n1_; clear n0_ n1_; clear hb ho3))
  go_loopg [3, 11] k (fun kq v3 v11 w' => ∃ (x3_1 : List (S49)) (x11_1 : Int), v11 = .int .i64 x11_1 ∧ Aside0 (hoodwinkref12_Split.l0 kq x3_1 l0 (l0.length : Int) x11_1 = some r) ∧ Aside0 (kq ≤ k) ∧ Aside0 (Kd.S k49 49 w' w.heap.size (fun _ => True) v3 x3_1) ∧ Aside0 (Below w.heap.size w w'))
  case atStart => exact ⟨(y109), (0), (by first | rfl | (simp; done) | (simp [*]; done)), H', ⟨Nat.le_refl _⟩, ⟨by (with_reducible repeat (first | apply Kd.S_alloc | apply Kd.S_drewN | apply Kd.S_drew)); exact HO111.out⟩, ⟨by repeat (first | (with_reducible first | exact HB.out | apply below_alloc | apply pw_below_drewN | apply below_drew1) | exact HB.out)⟩⟩
  case round =>
    clear H'
    try clear c2
    try clear p2
    try clear c3
    obtain ⟨x3_1, x11_1, rfl, HA, HK1, HO_3, HB⟩ := hrel
    cases gk with
    | zero => exact absurd HA.out (by simp [hoodwinkref12_Split.l0])
    | succ k1 =>
      have H := HA.out
      clear HA
      simp only [hoodwinkref12_Split.l0] at H
      by_cases c4 : x11_1 < (l0.length : Int)
      · rw [if_pos c4] at H
        have c4b0 : decide (x11_1 < (l0.length : Int)) = true := decide_eq_true c4
        clear c4
        by_cases c5 : 0 ≤ x11_1
        · rw [if_pos c5] at H
          have c5b0 : decide (0 ≤ x11_1) = true := decide_eq_true c5
          clear c5
          by_cases c6 : x11_1 < (l0.length : Int)
          · rw [if_pos c6] at H
            have c6b0 : decide (x11_1 < (l0.length : Int)) = true := decide_eq_true c6
            clear c6
            obtain ⟨ji7, hji7⟩ : ∃ j_ : Int, (wrap64 ((x3_1.length : Int) - 1)) = j_ := ⟨_, rfl⟩
            replace H : (if 0 ≤ (ji7) then (if (ji7) < (x3_1.length : Int) then (if (((rd_T49 x3_1 (ji7)).f2).length : Int) = 64 then (if x3_1.length < 4398046511104 then ((some (x3_1 ++ [(⟨false, false, ([] : List Int)⟩ : S49)] : List (S49))).bind fun y114 => (if 0 ≤ (wrap64 ((y114.length : Int) - 1)) then (if (wrap64 ((y114.length : Int) - 1)) < (y114.length : Int) then (if ((rd_T49 y114 (wrap64 ((y114.length : Int) - 1))).f2).length < 140737488355328 then (hoodwinkref12_Split.l0 k1 (y114.set ((wrap64 ((y114.length : Int) - 1)) : Int).toNat (⟨(rd_T49 y114 (wrap64 ((y114.length : Int) - 1))).f0, (rd_T49 y114 (wrap64 ((y114.length : Int) - 1))).f1, (((rd_T49 y114 (wrap64 ((y114.length : Int) - 1))).f2) ++ [rd l0 x11_1])⟩ : S49)) l0 (l0.length : Int) (wrap64 (x11_1 + 1))) else (none)) else (none)) else (none))) else (none)) else (if ((rd_T49 x3_1 (ji7)).f2).length < 140737488355328 then (hoodwinkref12_Split.l0 k1 (x3_1.set ((ji7) : Int).toNat (⟨(rd_T49 x3_1 (ji7)).f0, (rd_T49 x3_1 (ji7)).f1, (((rd_T49 x3_1 (ji7)).f2) ++ [rd l0 x11_1])⟩ : S49)) l0 (l0.length : Int) (wrap64 (x11_1 + 1))) else (none))) else (none)) else (none)) = some r := by first | (rw [hji7] at H; exact H) | (simp only [hji7] at H ⊢; exact H)
            have hji7w : (IntKind.i64.wrap ((x3_1.length : Int) - 1)) = ji7 := (i64_w _).trans hji7
            by_cases c8 : 0 ≤ (ji7)
            · rw [if_pos c8] at H
              have c8b0 : decide (0 ≤ (ji7)) = true := decide_eq_true c8
              clear c8
              by_cases c9 : (ji7) < (x3_1.length : Int)
              · rw [if_pos c9] at H
                have c9b0 : decide ((ji7) < (x3_1.length : Int)) = true := decide_eq_true c9
                clear c9
                by_cases c10 : (((rd_T49 x3_1 (ji7)).f2).length : Int) = 64
                · rw [if_pos c10] at H
                  have c10b0 : ((((rd_T49 x3_1 (ji7)).f2).length : Int) == 64) = true := beq_iff_eq.mpr c10
                  have c10b1 : ((((rd_T49 x3_1 (ji7)).f2).length : Int) != 64) = false := bne_eq_false_iff_eq.mpr c10
                  clear c10
                  by_cases c11 : x3_1.length < 4398046511104
                  · rw [if_pos c11] at H
                    have LMc11 := Aside0.mk c11
                    clear c11
                    obtain ⟨y114, hy114⟩ : ∃ y_ : List (S49), y_ = (x3_1 ++ [(⟨false, false, ([] : List Int)⟩ : S49)]) := ⟨_, rfl⟩
                    replace H : (if 0 ≤ (wrap64 ((y114.length : Int) - 1)) then (if (wrap64 ((y114.length : Int) - 1)) < (y114.length : Int) then (if ((rd_T49 y114 (wrap64 ((y114.length : Int) - 1))).f2).length < 140737488355328 then (hoodwinkref12_Split.l0 k1 (y114.set ((wrap64 ((y114.length : Int) - 1)) : Int).toNat (⟨(rd_T49 y114 (wrap64 ((y114.length : Int) - 1))).f0, (rd_T49 y114 (wrap64 ((y114.length : Int) - 1))).f1, (((rd_T49 y114 (wrap64 ((y114.length : Int) - 1))).f2) ++ [rd l0 x11_1])⟩ : S49)) l0 (l0.length : Int) (wrap64 (x11_1 + 1))) else (none)) else (none)) else (none)) = some r := by first | (rw [hy114]; with_reducible exact H) | (have H2_ := (Option.bind_some _ _).symm.trans H; rw [hy114]; with_reducible exact H2_) | (have H2_ := (Option.bind_some _ _).symm.trans H; with_reducible exact H2_) | with_reducible exact H | (rw [hy114]; exact H) | exact H
                    have Ny114 := Aside0.mk hy114
                    clear hy114
                    obtain ⟨ji12, hji12⟩ : ∃ j_ : Int, (wrap64 ((y114.length : Int) - 1)) = j_ := ⟨_, rfl⟩
                    replace H : (if 0 ≤ (ji12) then (if (ji12) < (y114.length : Int) then (if ((rd_T49 y114 (ji12)).f2).length < 140737488355328 then (hoodwinkref12_Split.l0 k1 (y114.set ((ji12) : Int).toNat (⟨(rd_T49 y114 (ji12)).f0, (rd_T49 y114 (ji12)).f1, (((rd_T49 y114 (ji12)).f2) ++ [rd l0 x11_1])⟩ : S49)) l0 (l0.length : Int) (wrap64 (x11_1 + 1))) else (none)) else (none)) else (none)) = some r := by first | (rw [hji12] at H; exact H) | (simp only [hji12] at H ⊢; exact H)
                    have hji12w : (IntKind.i64.wrap ((y114.length : Int) - 1)) = ji12 := (i64_w _).trans hji12
                    by_cases c13 : 0 ≤ (ji12)
                    · rw [if_pos c13] at H
                      have c13b0 : decide (0 ≤ (ji12)) = true := decide_eq_true c13
                      clear c13
                      by_cases c14 : (ji12) < (y114.length : Int)
                      · rw [if_pos c14] at H
                        have c14b0 : decide ((ji12) < (y114.length : Int)) = true := decide_eq_true c14
                        clear c14
                        by_cases c15 : ((rd_T49 y114 (ji12)).f2).length < 140737488355328
                        · rw [if_pos c15] at H
                          have LMc15 := Aside0.mk c15
                          clear c15
                          obtain ⟨y118, hy118⟩ : ∃ y_ : List Int, y_ = (((rd_T49 y114 (ji12)).f2) ++ [rd l0 x11_1]) := ⟨_, rfl⟩
                          replace H : (hoodwinkref12_Split.l0 k1 (y114.set ((ji12) : Int).toNat (⟨(rd_T49 y114 (ji12)).f0, (rd_T49 y114 (ji12)).f1, y118⟩ : S49)) l0 (l0.length : Int) (wrap64 (x11_1 + 1))) = some r := by first | (rw [hy118]; with_reducible exact H) | (have H2_ := (Option.bind_some _ _).symm.trans H; rw [hy118]; with_reducible exact H2_) | (have H2_ := (Option.bind_some _ _).symm.trans H; with_reducible exact H2_) | with_reducible exact H | (rw [hy118]; exact H) | exact H
                          have Ny118 := Aside0.mk hy118
                          clear hy118
                          obtain ⟨y121, hy121⟩ : ∃ y_ : List (S49), y_ = (y114.set ((ji12) : Int).toNat (⟨(rd_T49 y114 (ji12)).f0, (rd_T49 y114 (ji12)).f1, y118⟩ : S49)) := ⟨_, rfl⟩
                          replace H : (hoodwinkref12_Split.l0 k1 y121 l0 (l0.length : Int) (wrap64 (x11_1 + 1))) = some r := by first | (rw [hy121]; with_reducible exact H) | (have H2_ := (Option.bind_some _ _).symm.trans H; rw [hy121]; with_reducible exact H2_) | (have H2_ := (Option.bind_some _ _).symm.trans H; with_reducible exact H2_) | with_reducible exact H | (rw [hy121]; exact H) | exact H
                          have Ny121 := Aside0.mk hy121
                          clear hy121
                          have H' := Aside0.mk H
                          clear H
                          have p112 : 0 ≤ (x11_1 : Int) := of_decide_eq_true (by first | (with_reducible assumption) | assumption)
                          have q112 : x11_1 < (l0.length : Int) := of_decide_eq_true (by first | (with_reducible assumption) | assumption)
                          obtain ⟨ad112, e112, hx112_0⟩ := Kd.at_int HR0.out x11_1 p112 q112
                          cases e112
                          replace hx112_0 := (HB.out.cell (World.block_lt_of_cell? w _ hx112_0)).trans hx112_0
                          replace p112 := eq_true p112
                          replace q112 := eq_true q112
                          obtain ⟨Ao17, co17, eo17⟩ := Kd.S_slice HO_3.out
                          subst eo17
                          have p113 : 0 ≤ ((ji7) : Int) := of_decide_eq_true (by first | (with_reducible assumption) | assumption)
                          have q113 : (ji7) < (x3_1.length : Int) := of_decide_eq_true (by first | (with_reducible assumption) | assumption)
                          obtain ⟨ad113, A113_2, c113_2, e113, hx113_0, hx113_1, hx113_2, hl113_2, hi113_2⟩ := at_T49 (Kd.S_reads' HO_3.out).2.2 (ji7) p113 q113
                          cases e113
                          obtain ⟨ce113, hce113, hMe113, hcc113⟩ := Kd.S_get HO_3.out z49 (ji7) p113 (by first | exact q113 | exact of_decide_eq_true (by first | (with_reducible assumption) | assumption) | (have e_ := (Kd.S_reads' HO_3.out).1; omega))
                          obtain ⟨ve113_2, rfl, ge113_2⟩ := k49_openM hMe113
                          have hv113_2 := hcc113 2 _ rfl
                          rw [add_field _ _ 2 (by omega)] at hv113_2
                          replace hv113_2 := Option.some.inj (hv113_2.symm.trans hx113_2)
                          rw [hv113_2] at ge113_2
                          have HL113_2 := Aside0.mk (show Kd.R (Kd.int .u8) 5 _ _ _ _ ((rd_T49 x3_1 (ji7)).f2) from ge113_2)
                          clear hv113_2 ge113_2
                          have HX113_2 := Aside0.mk hx113_2
                          clear hcc113 hce113
                          have HR113_2 := Aside0.mk hi113_2
                          have HC113_2 := Aside0.mk hl113_2
                          clear hi113_2 hl113_2
                          replace p113 := eq_true p113
                          replace q113 := eq_true q113
                          go_wp2_with (first | ((with_reducible refine gate_builtin (b := .append) (xs := #[.tmp 24, .tmp 26]) rfl ?_); at_builtin; refine Kd.S_append k49 (w0 := w) w.heap.size rfl (.tmp 24) (.tmp 26) 43 49 (.agg #[(.bool false), (.bool false), (.slice none 0 0)]) 32 rfl Try.underlying43 info49 rfl (by decide) (by omega) (.slice (some ad113) x3_1.length co17) x3_1 (⟨false, false, ([] : List Int)⟩ : S49) [.bool false, .bool false, .slice none 0 0] (fun _ => True) (fun _ => False) rfl rfl ?aP (fun k_ hk_ => hk_.elim) ?aF ?aO ?aB ?aS ?aL ?_; (case aP => exact k49_mkM _ _ _ (⟨false, false, ([] : List Int)⟩ : S49) (Kd.R_nil _ _ _ _ _)); (case aB => exact (by repeat (first | (with_reducible first | exact HB.out | apply below_alloc | apply pw_below_drewN | apply below_drew1) | exact HB.out))); (case aF => exact (fun _ _ => trivial)); (case aO => exact (by (with_reducible repeat (first | apply Kd.S_alloc | apply Kd.S_drewN | apply Kd.S_drew)); exact Kd.S_mono HO_3.out (fun k_ hk => ⟨trivial, fun e_ => e_⟩))); (case aS => exact (below_size (by repeat (first | (with_reducible first | exact HB.out | apply below_alloc | apply pw_below_drewN | apply below_drew1) | exact HB.out)))); (case aL => have := LMc11.out; omega); intro v115 w18 ho hb hg hat; rw [← Ny114.out] at ho; have n0_ := Aside0.mk (Kd.R_after (ok := (fun _ => True)) (by (with_reducible repeat (first | apply Kd.R_alloc | apply Kd.R_drewN | apply Kd.R_drew)); exact HL113_2.out) hg hat); have n1_ := Aside0.mk (hb); have n2_ := Aside0.mk (ho); clear HL113_2; clear HB; clear HO_3; have HL113_2 := n0_; have HB := n1_; have HO116 := n2_; clear n0_ n1_ n2_; clear ho hb hg hat; obtain ⟨Ao19, co19, eo19⟩ := Kd.S_slice HO116.out; subst eo19; have p117 : 0 ≤ ((ji12) : Int) := of_decide_eq_true (by first | (with_reducible assumption) | assumption); have q117 : (ji12) < (y114.length : Int) := of_decide_eq_true (by first | (with_reducible assumption) | assumption); obtain ⟨ad117, A117_2, c117_2, e117, hx117_0, hx117_1, hx117_2, hl117_2, hi117_2⟩ := at_T49 (Kd.S_reads' HO116.out).2.2 (ji12) p117 q117; cases e117; obtain ⟨ce117, hce117, hMe117, hcc117⟩ := Kd.S_get HO116.out z49 (ji12) p117 (by first | exact q117 | exact of_decide_eq_true (by first | (with_reducible assumption) | assumption) | (have e_ := (Kd.S_reads' HO116.out).1; omega)); obtain ⟨ve117_2, rfl, ge117_2⟩ := k49_openM hMe117; have hv117_2 := hcc117 2 _ rfl; rw [add_field _ _ 2 (by omega)] at hv117_2; replace hv117_2 := Option.some.inj (hv117_2.symm.trans hx117_2); rw [hv117_2] at ge117_2; have HL117_2 := Aside0.mk (show Kd.R (Kd.int .u8) 5 _ _ _ _ ((rd_T49 y114 (ji12)).f2) from ge117_2); clear hv117_2 ge117_2; have HX117_2 := Aside0.mk hx117_2; clear hcc117 hce117; have HR117_2 := Aside0.mk hi117_2; have HC117_2 := Aside0.mk hl117_2; clear hi117_2 hl117_2; replace p117 := eq_true p117; replace q117 := eq_true q117; obtain ⟨go20, co20, eo20, gb20, gl20, cl20, HG20⟩ := Kd.S_form HO116.out (by have h_ : ((ji12) : Int) < ((y114.length : Int) : Int) := of_decide_eq_true (by first | (with_reducible assumption) | assumption); have h2_ : 0 ≤ ((ji12) : Int) := (of_decide_eq_true (by first | (with_reducible assumption) | assumption)); omega); (first | cases eo20 | (injection eo20 with ea_ en_ ec_; (first | subst ea_ | (injection ea_ with ea_; subst ea_)); subst ec_; clear en_)); have GB20 := Aside0.mk gb20; have GG20 := Aside0.mk HG20; clear gb20 gl20 HG20; (first | simp only [add_plain] at hx117_0 | skip); (first | simp only [add_plain] at hx117_1 | skip); (first | simp only [add_plain] at hx117_2 | skip); obtain ⟨oki20, ce20, hcl20, hM20, hcc20, _, _, hH20⟩ := Kd.S_elem HO116.out z49 ((ji12) : Int) (of_decide_eq_true (by first | (with_reducible assumption) | assumption)) (by have h_ : ((ji12) : Int) < ((y114.length : Int) : Int) := of_decide_eq_true (by first | (with_reducible assumption) | assumption); first | exact h_ | (have e_ := (Kd.S_reads' HO116.out).1; omega) | simpa using h_); obtain ⟨ve20_2, rfl, ge20_2⟩ := k49_openM hM20; have hv20 := hcc20 2 _ rfl; have hX20 := HX117_2.out; (try simp only [add_plain] at hX20); (try simp only [Nat.add_zero] at hv20); replace hv20 := Option.some.inj (hv20.symm.trans hX20); subst hv20; clear hX20 hcc20 hcl20; have UU20 := Aside0.mk (show Kd.R (Kd.int .u8) 5 _ w.heap.size oki20 (.slice A117_2 ((rd_T49 y114 (ji12)).f2).length c117_2) ((rd_T49 y114 (ji12)).f2) from ge20_2); have HH20 := Aside0.mk hH20; have HN20 := Aside0.mk (Kd.S_reads' HO116.out).1; clear hH20 ge20_2) | ((with_reducible refine gate_builtin (b := .append) (xs := #[.tmp 37, .tmp 39]) rfl ?_); at_builtin; refine Kd.R_append (Kd.int .u8) (w0 := w) w.heap.size rfl (.tmp 37) (.tmp 39) 24 5 (.int .u8 0) 1 rfl Try.underlying24 info5 rfl (by decide) (by omega) (.slice A117_2 ((rd_T49 y114 (ji12)).f2).length c117_2) ((rd_T49 y114 (ji12)).f2) (rd l0 x11_1) [.int .u8 (rd l0 x11_1)] (fun k_ => oki20 k_ ∨ ((fun _ => True)) k_ ∧ w18.heap.size ≤ k_) (fun _ => False) rfl rfl ?aP (fun _ hk => hk.elim) ?aF ?aO ?aB ?aS ?aL ?_; (case aP => exact rfl); (case aB => exact (by repeat (first | (with_reducible first | exact HB.out | apply below_alloc | apply pw_below_drewN | apply below_drew1) | exact HB.out))); (case aF => exact (fun k_ hk => .inr ⟨trivial, hk⟩)); (case aO => exact (by (with_reducible repeat (first | apply Kd.R_alloc | apply Kd.R_drewN | apply Kd.R_drew)); exact Kd.R_mono UU20.out (fun _ hk => .inl hk))); (case aS => exact (below_size (by repeat (first | (with_reducible first | exact HB.out | apply below_alloc | apply pw_below_drewN | apply below_drew1) | exact HB.out)))); (case aL => have := LMc15.out; omega); intro v119 w21 ho hb hg hat; rw [← Ny118.out] at ho; have n0_ := Aside0.mk (hb); have n1_ := Aside0.mk (Kd.H_grown (Kd.H_widen (by repeat (first | exact HH20.out | refine Kd.H_alloc ?_ _ | refine Kd.H_drewN ?_ _ | refine Kd.H_drew ?_))) hg (fun k_ e_ => .inl (UU20.out.1 k_ e_))); have n2_ := Aside0.mk (ho); clear HB; clear HH20; clear HO116; clear UU20; clear HL113_2; clear HL117_2; have HB := n0_; have HH20 := n1_; have HO120 := n2_; clear n0_ n1_ n2_; clear ho hb hg hat; have p16 : 0 ≤ ((ji12) : Int) := of_decide_eq_true (by first | (with_reducible assumption) | assumption); have q16 : ((ji12) : Int) < ((y114.length : Int) : Int) := of_decide_eq_true (by first | (with_reducible assumption) | assumption); replace p16 := eq_true p16; replace q16 := eq_true q16; obtain ⟨Ao24, co24, eo24⟩ := Kd.R_slice HO120.out; subst eo24; obtain ⟨_, _, hraw22, _, _, hcc22, _⟩ := Kd.H_raw HH20.out (of_decide_eq_true (by first | (with_reducible assumption) | assumption)) (by have h_ : ((ji12) : Int) < ((y114.length : Int) : Int) := of_decide_eq_true (by first | (with_reducible assumption) | assumption); first | exact h_ | (have e_ := (HN20.out); omega) | simpa using h_); obtain ⟨_, hfr22⟩ := Kd.H_at HH20.out (of_decide_eq_true (by first | (with_reducible assumption) | assumption)) (by have h_ : ((ji12) : Int) < ((y114.length : Int) : Int) := of_decide_eq_true (by first | (with_reducible assumption) | assumption); first | exact h_ | (have e_ := (HN20.out); omega) | simpa using h_); have hx22_0 := hcc22 2 _ rfl; have hf22_0 := hfr22 2; (try rw [show (k49).sz = 3 from rfl] at hx22_0); (try rw [show (k49).sz = 3 from rfl] at hf22_0); have HP22 := Kd.S_seg0 HH20.out (of_decide_eq_true (by first | (with_reducible assumption) | assumption)) (by have h_ : ((ji12) : Int) < ((y114.length : Int) : Int) := of_decide_eq_true (by first | (with_reducible assumption) | assumption); first | exact h_ | (have e_ := (HN20.out); omega) | simpa using h_) (seg := [.slice Ao24 y118.length co24]) (j := 2) (show 3 ≤ 3 from by decide) (x' := (⟨(rd_T49 y114 (ji12)).f0, (rd_T49 y114 (ji12)).f1, y118⟩ : S49)) (k49_mkM _ _ _ (⟨(rd_T49 y114 (ji12)).f0, (rd_T49 y114 (ji12)).f1, y118⟩ : S49) HO120.out) (fun _ hk => hk); clear hcc22 hfr22) | ((with_reducible refine gate_store (t := 24) (p := 42) rfl ?_); refine store_event (t := 24) (p := 42) (v := ?vo_w23) (w1 := (w21.setCell ⟨go20, ((ji12) : Int).toNat * 3 + 2, none⟩ (.slice Ao24 y118.length co24))) ?hg ?ho ?hn ?hr ?_; (case ho => rfl); (case hg => rfl); (case hn => rfl); (case hr => first | (go_simp; done) | (go_simp; rfl)); intro w23 hw; have hg : w21.grownBy w23 (some go20) := (by rw [hw]; exact HP22.2); have hp_ : Kd.S k49 49 w23 w.heap.size (fun _ => True) (.slice (some ⟨go20, 0, none⟩) y114.length co19) y121 := (by rw [hw, Ny121.out]; exact HP22.1); clear HP22; have n0_ := Aside0.mk ((by rw [hw]; exact below_set HB.out GB20.out : Below w.heap.size w w23)); have n1_ := Aside0.mk (hp_); clear HB; clear HO120; clear HH20; have HB := n0_; have HO116 := n1_; clear n0_ n1_; clear hg hw hp_ hraw22))
                          go_roundg k1
                          case measure => have := HK1.out; omega
                          case rel => exact ⟨(y121), (wrap64 (x11_1 + 1)), (by first | rfl | (simp; done) | (simp [*]; done)), H', ⟨by have := HK1.out; omega⟩, ⟨by (with_reducible repeat (first | apply Kd.S_alloc | apply Kd.S_drewN | apply Kd.S_drew)); exact HO116.out⟩, ⟨by repeat (first | (with_reducible first | exact HB.out | apply below_alloc | apply pw_below_drewN | apply below_drew1) | exact HB.out)⟩⟩
                        · rw [if_neg c15] at H
                          exact absurd H (by simp)
                      · rw [if_neg c14] at H
                        exact absurd H (by simp)
                    · rw [if_neg c13] at H
                      exact absurd H (by simp)
                  · rw [if_neg c11] at H
                    exact absurd H (by simp)
                · rw [if_neg c10] at H
                  have c10b0 : ((((rd_T49 x3_1 (ji7)).f2).length : Int) == 64) = false := beq_eq_false_iff_ne.mpr c10
                  have c10b1 : ((((rd_T49 x3_1 (ji7)).f2).length : Int) != 64) = true := bne_iff_ne.mpr c10
                  by_cases c25 : ((rd_T49 x3_1 (ji7)).f2).length < 140737488355328
                  · rw [if_pos c25] at H
                    have LMc25 := Aside0.mk c25
                    clear c25
                    obtain ⟨y123, hy123⟩ : ∃ y_ : List Int, y_ = (((rd_T49 x3_1 (ji7)).f2) ++ [rd l0 x11_1]) := ⟨_, rfl⟩
                    replace H : (hoodwinkref12_Split.l0 k1 (x3_1.set ((ji7) : Int).toNat (⟨(rd_T49 x3_1 (ji7)).f0, (rd_T49 x3_1 (ji7)).f1, y123⟩ : S49)) l0 (l0.length : Int) (wrap64 (x11_1 + 1))) = some r := by first | (rw [hy123]; with_reducible exact H) | (have H2_ := (Option.bind_some _ _).symm.trans H; rw [hy123]; with_reducible exact H2_) | (have H2_ := (Option.bind_some _ _).symm.trans H; with_reducible exact H2_) | with_reducible exact H | (rw [hy123]; exact H) | exact H
                    have Ny123 := Aside0.mk hy123
                    clear hy123
                    obtain ⟨y126, hy126⟩ : ∃ y_ : List (S49), y_ = (x3_1.set ((ji7) : Int).toNat (⟨(rd_T49 x3_1 (ji7)).f0, (rd_T49 x3_1 (ji7)).f1, y123⟩ : S49)) := ⟨_, rfl⟩
                    replace H : (hoodwinkref12_Split.l0 k1 y126 l0 (l0.length : Int) (wrap64 (x11_1 + 1))) = some r := by first | (rw [hy126]; with_reducible exact H) | (have H2_ := (Option.bind_some _ _).symm.trans H; rw [hy126]; with_reducible exact H2_) | (have H2_ := (Option.bind_some _ _).symm.trans H; with_reducible exact H2_) | with_reducible exact H | (rw [hy126]; exact H) | exact H
                    have Ny126 := Aside0.mk hy126
                    clear hy126
                    have H' := Aside0.mk H
                    clear H
                    have p112 : 0 ≤ (x11_1 : Int) := of_decide_eq_true (by first | (with_reducible assumption) | assumption)
                    have q112 : x11_1 < (l0.length : Int) := of_decide_eq_true (by first | (with_reducible assumption) | assumption)
                    obtain ⟨ad112, e112, hx112_0⟩ := Kd.at_int HR0.out x11_1 p112 q112
                    cases e112
                    replace hx112_0 := (HB.out.cell (World.block_lt_of_cell? w _ hx112_0)).trans hx112_0
                    replace p112 := eq_true p112
                    replace q112 := eq_true q112
                    obtain ⟨Ao27, co27, eo27⟩ := Kd.S_slice HO_3.out
                    subst eo27
                    have p113 : 0 ≤ ((ji7) : Int) := of_decide_eq_true (by first | (with_reducible assumption) | assumption)
                    have q113 : (ji7) < (x3_1.length : Int) := of_decide_eq_true (by first | (with_reducible assumption) | assumption)
                    obtain ⟨ad113, A113_2, c113_2, e113, hx113_0, hx113_1, hx113_2, hl113_2, hi113_2⟩ := at_T49 (Kd.S_reads' HO_3.out).2.2 (ji7) p113 q113
                    cases e113
                    obtain ⟨ce113, hce113, hMe113, hcc113⟩ := Kd.S_get HO_3.out z49 (ji7) p113 (by first | exact q113 | exact of_decide_eq_true (by first | (with_reducible assumption) | assumption) | (have e_ := (Kd.S_reads' HO_3.out).1; omega))
                    obtain ⟨ve113_2, rfl, ge113_2⟩ := k49_openM hMe113
                    have hv113_2 := hcc113 2 _ rfl
                    rw [add_field _ _ 2 (by omega)] at hv113_2
                    replace hv113_2 := Option.some.inj (hv113_2.symm.trans hx113_2)
                    rw [hv113_2] at ge113_2
                    have HL113_2 := Aside0.mk (show Kd.R (Kd.int .u8) 5 _ _ _ _ ((rd_T49 x3_1 (ji7)).f2) from ge113_2)
                    clear hv113_2 ge113_2
                    have HX113_2 := Aside0.mk hx113_2
                    clear hcc113 hce113
                    have HR113_2 := Aside0.mk hi113_2
                    have HC113_2 := Aside0.mk hl113_2
                    clear hi113_2 hl113_2
                    replace p113 := eq_true p113
                    replace q113 := eq_true q113
                    have p122 : 0 ≤ ((ji7) : Int) := of_decide_eq_true (by first | (with_reducible assumption) | assumption)
                    have q122 : (ji7) < (x3_1.length : Int) := of_decide_eq_true (by first | (with_reducible assumption) | assumption)
                    obtain ⟨ad122, A122_2, c122_2, e122, hx122_0, hx122_1, hx122_2, hl122_2, hi122_2⟩ := at_T49 (Kd.S_reads' HO_3.out).2.2 (ji7) p122 q122
                    obtain rfl : ad113 = ad122 := (by injection e122)
                    obtain ⟨ce122, hce122, hMe122, hcc122⟩ := Kd.S_get HO_3.out z49 (ji7) p122 (by first | exact q122 | exact of_decide_eq_true (by first | (with_reducible assumption) | assumption) | (have e_ := (Kd.S_reads' HO_3.out).1; omega))
                    obtain ⟨ve122_2, rfl, ge122_2⟩ := k49_openM hMe122
                    have hv122_2 := hcc122 2 _ rfl
                    rw [add_field _ _ 2 (by omega)] at hv122_2
                    replace hv122_2 := Option.some.inj (hv122_2.symm.trans hx122_2)
                    rw [hv122_2] at ge122_2
                    have HL122_2 := Aside0.mk (show Kd.R (Kd.int .u8) 5 _ _ _ _ ((rd_T49 x3_1 (ji7)).f2) from ge122_2)
                    clear hv122_2 ge122_2
                    have HX122_2 := Aside0.mk hx122_2
                    clear hcc122 hce122
                    have HR122_2 := Aside0.mk hi122_2
                    have HC122_2 := Aside0.mk hl122_2
                    clear hi122_2 hl122_2
                    replace p122 := eq_true p122
                    replace q122 := eq_true q122
                    have ea_ := Option.some.inj (hx113_2.symm.trans hx122_2)
                    injection ea_ with ea_ en_ ec_
                    subst ea_
                    subst ec_
                    clear en_
                    obtain ⟨go28, co28, eo28, gb28, gl28, cl28, HG28⟩ := Kd.S_form HO_3.out (by have h_ : ((ji7) : Int) < ((x3_1.length : Int) : Int) := of_decide_eq_true (by first | (with_reducible assumption) | assumption); have h2_ : 0 ≤ ((ji7) : Int) := (of_decide_eq_true (by first | (with_reducible assumption) | assumption)); omega)
                    (first | cases eo28 | (injection eo28 with ea_ en_ ec_; (first | subst ea_ | (injection ea_ with ea_; subst ea_)); subst ec_; clear en_))
                    have GB28 := Aside0.mk gb28
                    have GG28 := Aside0.mk HG28
                    clear gb28 gl28 HG28
                    (first | simp only [add_plain] at hx113_0 | skip)
                    (first | simp only [add_plain] at hx113_1 | skip)
                    (first | simp only [add_plain] at hx113_2 | skip)
                    (first | simp only [add_plain] at hx122_0 | skip)
                    (first | simp only [add_plain] at hx122_1 | skip)
                    (first | simp only [add_plain] at hx122_2 | skip)
                    obtain ⟨oki28, ce28, hcl28, hM28, hcc28, _, _, hH28⟩ := Kd.S_elem HO_3.out z49 ((ji7) : Int) (of_decide_eq_true (by first | (with_reducible assumption) | assumption)) (by have h_ : ((ji7) : Int) < ((x3_1.length : Int) : Int) := of_decide_eq_true (by first | (with_reducible assumption) | assumption); first | exact h_ | (have e_ := (Kd.S_reads' HO_3.out).1; omega) | simpa using h_)
                    obtain ⟨ve28_2, rfl, ge28_2⟩ := k49_openM hM28
                    have hv28 := hcc28 2 _ rfl
                    have hX28 := HX122_2.out
                    (try simp only [add_plain] at hX28)
                    (try simp only [Nat.add_zero] at hv28)
                    replace hv28 := Option.some.inj (hv28.symm.trans hX28)
                    subst hv28
                    clear hX28 hcc28 hcl28
                    have UU28 := Aside0.mk (show Kd.R (Kd.int .u8) 5 _ w.heap.size oki28 (.slice A113_2 ((rd_T49 x3_1 (ji7)).f2).length c113_2) ((rd_T49 x3_1 (ji7)).f2) from ge28_2)
                    have HH28 := Aside0.mk hH28
                    have HN28 := Aside0.mk (Kd.S_reads' HO_3.out).1
                    clear hH28 ge28_2
                    go_wp2_with (first | ((with_reducible refine gate_builtin (b := .append) (xs := #[.tmp 37, .tmp 39]) rfl ?_); at_builtin; refine Kd.R_append (Kd.int .u8) (w0 := w) w.heap.size rfl (.tmp 37) (.tmp 39) 24 5 (.int .u8 0) 1 rfl Try.underlying24 info5 rfl (by decide) (by omega) (.slice A113_2 ((rd_T49 x3_1 (ji7)).f2).length c113_2) ((rd_T49 x3_1 (ji7)).f2) (rd l0 x11_1) [.int .u8 (rd l0 x11_1)] (fun k_ => oki28 k_ ∨ ((fun _ => True)) k_ ∧ wr.heap.size ≤ k_) (fun _ => False) rfl rfl ?aP (fun _ hk => hk.elim) ?aF ?aO ?aB ?aS ?aL ?_; (case aP => exact rfl); (case aB => exact (by repeat (first | (with_reducible first | exact HB.out | apply below_alloc | apply pw_below_drewN | apply below_drew1) | exact HB.out))); (case aF => exact (fun k_ hk => .inr ⟨trivial, hk⟩)); (case aO => exact (by (with_reducible repeat (first | apply Kd.R_alloc | apply Kd.R_drewN | apply Kd.R_drew)); exact Kd.R_mono UU28.out (fun _ hk => .inl hk))); (case aS => exact (below_size (by repeat (first | (with_reducible first | exact HB.out | apply below_alloc | apply pw_below_drewN | apply below_drew1) | exact HB.out)))); (case aL => have := LMc25.out; omega); intro v124 w29 ho hb hg hat; rw [← Ny123.out] at ho; have n0_ := Aside0.mk (hb); have n1_ := Aside0.mk (Kd.H_grown (Kd.H_widen (by repeat (first | exact HH28.out | refine Kd.H_alloc ?_ _ | refine Kd.H_drewN ?_ _ | refine Kd.H_drew ?_))) hg (fun k_ e_ => .inl (UU28.out.1 k_ e_))); have n2_ := Aside0.mk (ho); clear HB; clear HH28; clear HO_3; clear UU28; clear HL113_2; clear HL122_2; have HB := n0_; have HH28 := n1_; have HO125 := n2_; clear n0_ n1_ n2_; clear ho hb hg hat; have p26 : 0 ≤ ((ji7) : Int) := of_decide_eq_true (by first | (with_reducible assumption) | assumption); have q26 : ((ji7) : Int) < ((x3_1.length : Int) : Int) := of_decide_eq_true (by first | (with_reducible assumption) | assumption); replace p26 := eq_true p26; replace q26 := eq_true q26; obtain ⟨Ao32, co32, eo32⟩ := Kd.R_slice HO125.out; subst eo32; obtain ⟨_, _, hraw30, _, _, hcc30, _⟩ := Kd.H_raw HH28.out (of_decide_eq_true (by first | (with_reducible assumption) | assumption)) (by have h_ : ((ji7) : Int) < ((x3_1.length : Int) : Int) := of_decide_eq_true (by first | (with_reducible assumption) | assumption); first | exact h_ | (have e_ := (HN28.out); omega) | simpa using h_); obtain ⟨_, hfr30⟩ := Kd.H_at HH28.out (of_decide_eq_true (by first | (with_reducible assumption) | assumption)) (by have h_ : ((ji7) : Int) < ((x3_1.length : Int) : Int) := of_decide_eq_true (by first | (with_reducible assumption) | assumption); first | exact h_ | (have e_ := (HN28.out); omega) | simpa using h_); have hx30_0 := hcc30 2 _ rfl; have hf30_0 := hfr30 2; (try rw [show (k49).sz = 3 from rfl] at hx30_0); (try rw [show (k49).sz = 3 from rfl] at hf30_0); have HP30 := Kd.S_seg0 HH28.out (of_decide_eq_true (by first | (with_reducible assumption) | assumption)) (by have h_ : ((ji7) : Int) < ((x3_1.length : Int) : Int) := of_decide_eq_true (by first | (with_reducible assumption) | assumption); first | exact h_ | (have e_ := (HN28.out); omega) | simpa using h_) (seg := [.slice Ao32 y123.length co32]) (j := 2) (show 3 ≤ 3 from by decide) (x' := (⟨(rd_T49 x3_1 (ji7)).f0, (rd_T49 x3_1 (ji7)).f1, y123⟩ : S49)) (k49_mkM _ _ _ (⟨(rd_T49 x3_1 (ji7)).f0, (rd_T49 x3_1 (ji7)).f1, y123⟩ : S49) HO125.out) (fun _ hk => hk); clear hcc30 hfr30) | ((with_reducible refine gate_store (t := 24) (p := 42) rfl ?_); refine store_event (t := 24) (p := 42) (v := ?vo_w31) (w1 := (w29.setCell ⟨go28, ((ji7) : Int).toNat * 3 + 2, none⟩ (.slice Ao32 y123.length co32))) ?hg ?ho ?hn ?hr ?_; (case ho => rfl); (case hg => rfl); (case hn => rfl); (case hr => first | (go_simp; done) | (go_simp; rfl)); intro w31 hw; have hg : w29.grownBy w31 (some go28) := (by rw [hw]; exact HP30.2); have hp_ : Kd.S k49 49 w31 w.heap.size (fun _ => True) (.slice (some ⟨go28, 0, none⟩) x3_1.length co27) y126 := (by rw [hw, Ny126.out]; exact HP30.1); clear HP30; have n0_ := Aside0.mk ((by rw [hw]; exact below_set HB.out GB28.out : Below w.heap.size w w31)); have n1_ := Aside0.mk (hp_); clear HB; clear HO125; clear HH28; have HB := n0_; have HO_3 := n1_; clear n0_ n1_; clear hg hw hp_ hraw30))
                    go_roundg k1
                    case measure => have := HK1.out; omega
                    case rel => exact ⟨(y126), (wrap64 (x11_1 + 1)), (by first | rfl | (simp; done) | (simp [*]; done)), H', ⟨by have := HK1.out; omega⟩, ⟨by (with_reducible repeat (first | apply Kd.S_alloc | apply Kd.S_drewN | apply Kd.S_drew)); exact HO_3.out⟩, ⟨by repeat (first | (with_reducible first | exact HB.out | apply below_alloc | apply pw_below_drewN | apply below_drew1) | exact HB.out)⟩⟩
                  · rw [if_neg c25] at H
                    exact absurd H (by simp)
              · rw [if_neg c9] at H
                exact absurd H (by simp)
            · rw [if_neg c8] at H
              exact absurd H (by simp)
          · rw [if_neg c6] at H
            exact absurd H (by simp)
        · rw [if_neg c5] at H
          exact absurd H (by simp)
      · rw [if_neg c4] at H
        have c4b0 : decide (x11_1 < (l0.length : Int)) = false := decide_eq_false c4
        clear c4
        obtain ⟨ji33, hji33⟩ : ∃ j_ : Int, (wrap64 ((x3_1.length : Int) - 1)) = j_ := ⟨_, rfl⟩
        replace H : (if 0 ≤ (ji33) then (if (ji33) < (x3_1.length : Int) then (some (x3_1.set ((ji33) : Int).toNat (⟨(rd_T49 x3_1 (ji33)).f0, true, (rd_T49 x3_1 (ji33)).f2⟩ : S49))) else (none)) else (none)) = some r := by first | (rw [hji33] at H; exact H) | (simp only [hji33] at H ⊢; exact H)
        have hji33w : (IntKind.i64.wrap ((x3_1.length : Int) - 1)) = ji33 := (i64_w _).trans hji33
        by_cases c34 : 0 ≤ (ji33)
        · rw [if_pos c34] at H
          have c34b0 : decide (0 ≤ (ji33)) = true := decide_eq_true c34
          clear c34
          by_cases c35 : (ji33) < (x3_1.length : Int)
          · rw [if_pos c35] at H
            have c35b0 : decide ((ji33) < (x3_1.length : Int)) = true := decide_eq_true c35
            clear c35
            obtain ⟨y127, hy127⟩ : ∃ y_ : List (S49), y_ = (x3_1.set ((ji33) : Int).toNat (⟨(rd_T49 x3_1 (ji33)).f0, true, (rd_T49 x3_1 (ji33)).f2⟩ : S49)) := ⟨_, rfl⟩
            replace H : (some y127) = some r := by first | (rw [hy127]; with_reducible exact H) | (have H2_ := (Option.bind_some _ _).symm.trans H; rw [hy127]; with_reducible exact H2_) | (have H2_ := (Option.bind_some _ _).symm.trans H; with_reducible exact H2_) | with_reducible exact H | (rw [hy127]; exact H) | exact H
            have Ny127 := Aside0.mk hy127
            clear hy127
            obtain rfl := Option.some.inj H
            obtain ⟨Ao37, co37, eo37⟩ := Kd.S_slice HO_3.out
            subst eo37
            have p36 : 0 ≤ ((ji33) : Int) := of_decide_eq_true (by first | (with_reducible assumption) | assumption)
            have q36 : ((ji33) : Int) < ((x3_1.length : Int) : Int) := of_decide_eq_true (by first | (with_reducible assumption) | assumption)
            obtain ⟨go36, co36, eo36, gb36, gl36, cl36, HG36⟩ := Kd.S_form HO_3.out (by omega)
            (first | cases eo36 | (injection eo36 with ea_ en_ ec_; (first | subst ea_ | (injection ea_ with ea_; subst ea_)); subst ec_; clear en_))
            have GB36 := Aside0.mk gb36
            have GG36 := Aside0.mk HG36
            clear gb36 gl36 HG36
            obtain ⟨_, ce36, hcl36, hM36, hcc36, hfr36, _, _⟩ := Kd.S_elem HO_3.out z49 ((ji33) : Int) p36 q36
            obtain ⟨ve36_2, rfl, ge36_2⟩ := k49_openM hM36
            have hx36_0 : wr.cell? ⟨go36, ((ji33) : Int).toNat * 3, none⟩ = some (.bool ((rd_T49 x3_1 (ji33)).f0)) := hcc36 0 _ rfl
            have hx36_1 : wr.cell? ⟨go36, ((ji33) : Int).toNat * 3 + 1, none⟩ = some (.bool ((rd_T49 x3_1 (ji33)).f1)) := hcc36 1 _ rfl
            have hx36_2 : wr.cell? ⟨go36, ((ji33) : Int).toNat * 3 + 2, none⟩ = some (ve36_2) := hcc36 2 _ rfl
            have hf36_0 : wr.frozen? ⟨go36, ((ji33) : Int).toNat * 3, none⟩ = false := hfr36 0
            have hf36_1 : wr.frozen? ⟨go36, ((ji33) : Int).toNat * 3 + 1, none⟩ = false := hfr36 1
            have hf36_2 : wr.frozen? ⟨go36, ((ji33) : Int).toNat * 3 + 2, none⟩ = false := hfr36 2
            clear hcl36 hcc36 hfr36 hM36
            replace p36 := eq_true p36
            replace q36 := eq_true q36
            have HX38 := Aside0.mk (show Kd.S k49 49 wr w.heap.size (fun k_ => ((fun _ => True)) k_ ∧ ¬ ((fun _ => False)) k_) (.slice (some ⟨go36, 0, none⟩) x3_1.length co37) x3_1 from (by (with_reducible repeat (first | apply Kd.S_alloc | apply Kd.S_drewN | apply Kd.S_drew)); exact Kd.S_mono HO_3.out (fun k_ hk => ⟨trivial, fun e_ => e_⟩)))
            obtain ⟨oki38, ce38, hcl38, hM38, hcc38, hfr38, hoki38, hH38⟩ := Kd.S_elem HX38.out z49 ((ji33) : Int) (of_decide_eq_true (by first | (with_reducible assumption) | assumption)) (by have h_ : ((ji33) : Int) < ((x3_1.length : Int) : Int) := of_decide_eq_true (by first | (with_reducible assumption) | assumption); first | exact h_ | (have e_ := (Kd.S_reads' HO_3.out).1; omega) | simpa using h_)
            obtain ⟨ve38_2, rfl, ge38_2⟩ := k49_openM hM38
            have HP38 := Kd.S_seg hH38 (of_decide_eq_true (by first | (with_reducible assumption) | assumption)) (by have h_ : ((ji33) : Int) < ((x3_1.length : Int) : Int) := of_decide_eq_true (by first | (with_reducible assumption) | assumption); first | exact h_ | (have e_ := (Kd.S_reads' HO_3.out).1; omega) | simpa using h_) (seg := [.bool true]) (j := 1) (show 2 ≤ 3 from by decide) (x' := (⟨(rd_T49 x3_1 (ji33)).f0, true, (rd_T49 x3_1 (ji33)).f2⟩ : S49)) (k49_mkM _ _ _ (⟨(rd_T49 x3_1 (ji33)).f0, true, (rd_T49 x3_1 (ji33)).f2⟩ : S49) (Kd.R_mono ge38_2 (fun _ h_ => Or.inl h_))) (fun _ hk => hk) (fun k_ hk_ => hk_.elim)
            have hx38_1 := hcc38 1 _ rfl
            (try simp only [show (k49).sz = 3 from rfl, Nat.mul_one, Nat.add_zero] at hx38_1)
            have hf38_1 := hfr38 1
            (try simp only [show (k49).sz = 3 from rfl, Nat.mul_one, Nat.add_zero] at hf38_1)
            clear hcl38 hcc38 hfr38 hM38 hoki38 hH38
            go_wp2_with (first | ((with_reducible refine gate_store (t := 4) (p := 49) rfl ?_); refine store_event (t := 4) (p := 49) (v := ?vo_w39) (w1 := (wr.setCell ⟨go36, ((ji33) : Int).toNat * 3 + 1, none⟩ (.bool true))) ?hg ?ho ?hn ?hr ?_; (case ho => rfl); (case hg => rfl); (case hn => rfl); (case hr => first | (go_simp; done) | (go_simp; rfl)); intro w39 hw; have hg : wr.grownBy w39 (some go36) := (by rw [hw]; exact HP38.2); have hp_ : Kd.S k49 49 w39 w.heap.size (fun _ => True) (.slice (some ⟨go36, 0, none⟩) x3_1.length co37) y127 := (by rw [hw, Ny127.out]; exact HP38.1); clear HP38; have n0_ := Aside0.mk (hp_); have n1_ := Aside0.mk ((by rw [hw]; exact below_set (HB.out) GB36.out : Below w.heap.size w w39)); clear HO_3; clear HB; have HO_3 := n0_; have HB := n1_; clear n0_ n1_; clear hg hw hp_))
            go_ret
            exact ⟨_, by first | rfl | (simp [errW_none, errW_some] <;> rfl) | (simp only [← hji33]; first | rfl | (simp [errW_none, errW_some] <;> rfl)) | (simp [*, errW_none, errW_some] <;> rfl), by (with_reducible repeat (first | apply Kd.S_alloc | apply Kd.S_drewN | apply Kd.S_drew)); exact HO_3.out, by repeat (first | (with_reducible first | exact HB.out | apply below_alloc | apply pw_below_drewN | apply below_drew1) | exact HB.out)⟩
          · rw [if_neg c35] at H
            exact absurd H (by simp)
        · rw [if_neg c34] at H
          exact absurd H (by simp)

end Go.Proofs.Ytmhninlndjcikaa
