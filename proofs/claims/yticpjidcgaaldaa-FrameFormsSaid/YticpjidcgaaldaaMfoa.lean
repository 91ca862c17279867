/- The parts of this proof, one behind the other: contracts of the functions, plain laws, the walk. -/
import Derived.Test.YticpjidcgaaldaaProg
import Derived.Below
import Derived.Deep.Draws
import Derived.Deep.AppendLies
import Derived.Maps.AppendAt
import Derived.OwnWalk
import Derived.Laws.BytesArg
import Derived.Laws.MakeOwn
import Derived.Laws.OwnMore
import Derived.Deep.OwnRows
import Derived.Tactics
import Derived.Lib.ConvBytes
import Derived.Laws.Slices
import Derived.WalkKit
import Derived.KernelRfl
import Derived.RowKit3
import Derived.Deep.LoopGhost
import Derived.Deep.QuietTactic
import Derived.BigQuiet
import Derived.WideLaws
import Derived.Deep.DeepCutAuto
import Derived.Deep.CutBlock
import Derived.Deep.RegionHeld3
import Derived.Laws.Rows
import Derived.Lib.AppendStr
import Derived.ArgAppend
import Derived.Laws.IdiomCopy
import Derived.OrdersHeld
import Derived.Laws.BitsLemmas
import Derived.RowKit
import Derived.Test.YticpjidcgaaldaaWWords
import Derived.Test.YticpjidcgaaldaaWLast
import Derived.Test.YticpjidcgaaldaaWTab
import Derived.Test.YticpjidcgaaldaaWQPut
import Derived.Test.YticpjidcgaaldaaWApart
import Derived.Test.YticpjidcgaaldaaWArr
import Derived.Test.YticpjidcgaaldaaWZeros
import Derived.Test.YticpjidcgaaldaaWFoot
import Derived.Test.YticpjidcgaaldaaWKept
import Derived.Test.YticpjidcgaaldaaWShare
import Derived.Test.YticpjidcgaaldaaWN
import Derived.Test.YticpjidcgaaldaaWNEv
import Derived.Test.YticpjidcgaaldaaWMore
import Derived.LoopTactic
import Derived.Lib.Hide
import Derived.Laws.BitsAllLaws
import Derived.Orders
import Derived.Test.YticpjidcgaaldaaChecked
import Derived.WalkSpells
import Derived.Deep.RegionWith
import Derived.Deep.RegionLaw
import Derived.Laws.Tables
import Derived.Laws.CopyOwn
import Derived.Laws.Cover3
import Derived.Laws.StructEq
import Derived.RegionTactic
import Derived.BigRegion
import Derived.Laws.CopyRow
import Derived.Deep.MidRow
import Derived.Lib.SliceRun
import Derived.DeepKeys
import Derived.OpenShut
namespace Go.Proofs.Yticpjidcgaaldaa
open Go.RowKit Go.Proofs.YticpjidcgaaldaaW.PrintWords Go.Proofs.YticpjidcgaaldaaW.PrintLast Go.Proofs.YticpjidcgaaldaaW.PrintMore
attribute [local go_sem] max2_int min2_int max_two min_two max_three min_three max_four min_four   -- for this text's walks alone
set_option linter.unusedVariables false
set_option linter.unusedSimpArgs false

def errW : Option Int → Value
  | none => .nilIface
  | some c => .iface 0 (.int .i64 c)
theorem errW_none : errW none = .nilIface := rfl
theorem errW_some (c : Int) : errW (some c) = .iface 0 (.int .i64 c) := rfl

theorem info5 : (Try.prog.info? 5).map (fun i => (i.zero, i.size, i.bytes)) = some (some (.int .u8 0), 1, 1) := by kernel_rfl
-- the values' own types
structure S59 where
  f0 : Int
  f1 : Int
def z59 : S59 := ⟨(0 : Int), (0 : Int)⟩
def k59 : Kd S59 := Kd.iso (Kd.pair (Kd.int .i32) (Kd.int .u32)) (fun x : S59 => (x.f0, x.f1))
theorem k59_open {w : World} {x : S59} {cs : List Value} (h : k59.K w x cs) : cs = [.int .i32 x.f0, .int .u32 x.f1] := by
  obtain ⟨_, _, rfl, rfl, rfl⟩ := h
  exact rfl
theorem k59_mk (w : World) (x : S59)  : k59.K w x [.int .i32 x.f0, .int .u32 x.f1] := ⟨[.int .i32 x.f0], [.int .u32 x.f1], rfl, rfl, rfl⟩
theorem k59_mkM (w : World) (base : Nat) (ok : Nat → Prop) (x : S59)  : k59.M w base ok x [.int .i32 x.f0, .int .u32 x.f1] := ⟨[.int .i32 x.f0], [.int .u32 x.f1], rfl, rfl, rfl⟩
def rd_T59 (xs : List S59) (i : Int) : S59 := xs.getD i.toNat z59
theorem at_T59 {w : World} {A : Option Addr} {n : Nat} {xs : List S59} (h : Kd.C k59 w A n xs) (i : Int) (h0 : 0 ≤ i) (h1 : i < n) : ∃ ad , A = some ad ∧ w.cell? (ad.add (i.toNat * 2)) = some (.int .i32 (rd_T59 xs i).f0) ∧ w.cell? ⟨(ad.add (i.toNat * 2)).block, (ad.add (i.toNat * 2)).off + 1, none⟩ = some (.int .u32 (rd_T59 xs i).f1) := by
  obtain ⟨ad, c, e, _, hK, hc0⟩ := Kd.C_get h z59 i h0 h1
  have hc : ∀ j u, c[j]? = some u → w.cell? (ad.add (i.toNat * 2 + j)) = some u := hc0
  obtain rfl := k59_open hK
  exact ⟨ad, e, hc 0 _ rfl, by rw [← add_field _ _ 1 (by omega)]; exact hc 1 _ rfl⟩

structure S97 where
  f0 : Int
  f1 : Int
def k97 : Kd S97 := Kd.iso (Kd.pair (Kd.int .i32) (Kd.int .u32)) (fun x : S97 => (x.f0, x.f1))
def rd_L5 (xs : List (List Int)) (i : Int) : (List Int) := xs.getD i.toNat ([] : List Int)
theorem at_L5 {w : World} {A : Option Addr} {n : Nat} {xs : List (List Int)} (h : Kd.C (Kd.slice 5 (Kd.int .u8)) w A n xs) (i : Int) (h0 : 0 ≤ i) (h1 : i < n) : ∃ ad A0 c0, A = some ad ∧ w.cell? (ad.add i.toNat) = some (.slice A0 (rd_L5 xs i).length c0) ∧ (rd_L5 xs i).length ≤ c0 ∧ (Kd.int .u8).C w A0 (rd_L5 xs i).length (rd_L5 xs i) := by
  obtain ⟨ad, c, e, _, hK, hc0⟩ := Kd.C_get h ([] : List Int) i h0 h1
  have hc : ∀ j u, c[j]? = some u → w.cell? (ad.add (i.toNat * 1 + j)) = some u := hc0
  obtain ⟨A0, c0, rfl, l0, g0⟩ := hK
  exact ⟨ad, A0, c0, e, by have hq := hc 0 _ rfl; rwa [Nat.mul_one, Nat.add_zero] at hq, l0, g0⟩

-- NOT PRINTED: function 70 (ink_Pen_add)

-- NOT PRINTED: function 38 (ink_Pen_Byte)

-- NOT PRINTED: function 59 (ink_Pen_Half)

-- NOT PRINTED: function 39 (ink_Pen_Word)

-- NOT PRINTED: function 71 (bytes_Clone)

-- NOT PRINTED: function 40 (ink_Pen_Bytes)

def delta_Delta_right.l0 : Nat → List Int → Int → Int → Int → Int → List Int → List (S59) → Option (Bool)
  | 0, _, _, _, _, _, _, _ => none
  | k + 1, x6, x7, x8, x102000, x102001, x102002, x102003 => if x8 < x7 then (if 0 ≤ x8 then (if x8 < (x6.length : Int) then (if (wrap64 (rd x6 x8)) ≥ 48 then (some false) else (if x8 > 0 then (if 0 ≤ (wrap64 (x8 - 1)) then (if (wrap64 (x8 - 1)) < (x102002.length : Int) then (if (rd x6 x8) ≤ (rd x102002 (wrap64 (x8 - 1))) then (some false) else (delta_Delta_right.l0 k x6 x7 (wrap64 (x8 + 1)) x102000 x102001 x102002 x102003)) else (none)) else (none)) else (delta_Delta_right.l0 k x6 x7 (wrap64 (x8 + 1)) x102000 x102001 x102002 x102003))) else (none)) else (none)) else (some ((x102002.length : Int) == (x102003.length : Int)))
def delta_Delta_right.f (k : Nat) (a0_0 : Int) (a0_1 : Int) (l0_2 : List Int) (l0_3 : List (S59)) : Option (Bool) := delta_Delta_right.l0 k l0_2 (l0_2.length : Int) 0 a0_0 a0_1 l0_2 l0_3
set_option maxHeartbeats 8000000 in
set_option maxRecDepth 100000 in
theorem delta_Delta_right.calls (k : Nat) (a0_0 : Int) (a0_1 : Int) (A0_2 : Option Addr) (c0_2 : Nat) (l0_2 : List Int) (A0_3 : Option Addr) (c0_3 : Nat) (l0_3 : List (S59)) (r : Bool) (w : World) (hr0_2 : Kd.C (Kd.int .u8) w A0_2 l0_2.length l0_2) (hc0_2 : l0_2.length ≤ c0_2) (hr0_3 : Kd.C k59 w A0_3 l0_3.length l0_3) (hc0_3 : l0_3.length ≤ c0_3) (h : delta_Delta_right.f k a0_0 a0_1 l0_2 l0_3 = some r) :
    Calls Try.prog 72 #[.agg #[.int .u32 a0_0, .int .u32 a0_1, .slice A0_2 l0_2.length c0_2, .slice A0_3 l0_3.length c0_3]] w fun e w' => e = .returned (.bool r) ∧ Below w.heap.size w w' := by
  have hu26 := Try.underlying26
  have HR0_2 := Aside0.mk hr0_2
  have HC0_2 := Aside0.mk hc0_2
  clear hr0_2 hc0_2
  have HR0_3 := Aside0.mk hr0_3
  have HC0_3 := Aside0.mk hc0_3
  clear hr0_3 hc0_3
  have HB := Aside0.mk (Below.refl w.heap.size w)
  have H : (delta_Delta_right.l0 k l0_2 (l0_2.length : Int) 0 a0_0 a0_1 l0_2 l0_3) = some r := h
  clear h
  have H' := Aside0.mk H
  clear H
  go_enter Try.func72, Try.ntmps72
  go_wp2_with (first | ((with_reducible refine gate_dst (N := 1) rfl ?_); refine box_event ?hg (N := 1) ?hd (cs := #[.int .u32 a0_0, .int .u32 a0_1, .slice A0_2 l0_2.length c0_2, .slice A0_3 l0_3.length c0_3]) (t := 26) ?hr ?_; (case hd => rfl); (case hg => rfl); (case hr => first | (go_simp; done) | (go_simp; rfl)); intro gb101 hg w2 hbox hb; have n0_ := Aside0.mk (below_step (by repeat (first | (with_reducible first | exact HB.out | apply below_alloc | apply pw_below_drewN | apply below_drew1) | exact HB.out)) hb); have n1_ := Aside0.mk (hbox); have n2_ := Aside0.mk ((by rw [hg]; exact (below_size (by repeat (first | (with_reducible first | exact HB.out | apply below_alloc | apply pw_below_drewN | apply below_drew1) | exact HB.out))) : w.heap.size ≤ gb101)); have n3_ := Aside0.mk ((by rw [hg]; exact (below_size (by repeat (first | (with_reducible first | exact HB.out | apply below_alloc | apply pw_below_drewN | apply below_drew1) | exact HB.out))) : w.heap.size ≤ gb101)); clear HB; have HB := n0_; have BK101 := n1_; have GW101 := n2_; have GE101 := n3_; clear n0_ n1_ n2_ n3_; clear hb hbox hg; have hcz3_0 : w2.cell? ⟨gb101, 0, none⟩ = some (.int .u32 a0_0) := (blk_cell BK101.out 0).trans rfl; have hcz3_1 : w2.cell? ⟨gb101, 1, none⟩ = some (.int .u32 a0_1) := (blk_cell BK101.out 1).trans rfl; have hcz3_2 : w2.cell? ⟨gb101, 2, none⟩ = some (.slice A0_2 l0_2.length c0_2) := (blk_cell BK101.out 2).trans rfl; have hcz3_3 : w2.cell? ⟨gb101, 3, none⟩ = some (.slice A0_3 l0_3.length c0_3) := (blk_cell BK101.out 3).trans rfl; have hfz3_0 := blk_frozen BK101.out 0; have hfz3_1 := blk_frozen BK101.out 1; have hfz3_2 := blk_frozen BK101.out 2; have hfz3_3 := blk_frozen BK101.out 3))
  go_loopg [8] k (fun kq v8 w' => ∃ (x8_1 : Int), v8 = .int .i64 x8_1 ∧ Aside0 (delta_Delta_right.l0 kq l0_2 (l0_2.length : Int) x8_1 a0_0 a0_1 l0_2 l0_3 = some r) ∧ Aside0 (kq ≤ k) ∧ Aside0 (w'.heap[gb101]? = some (.cells #[.int .u32 a0_0, .int .u32 a0_1, (.slice A0_2 l0_2.length c0_2), (.slice A0_3 l0_3.length c0_3)] 26 (0, 0))) ∧ Aside0 (Below w.heap.size w w'))
  case atStart => exact ⟨(0), (by first | rfl | (simp; done) | (simp [*]; done)), H', ⟨Nat.le_refl _⟩, ⟨by (with_reducible repeat (first | refine blk_drewN ?_ _ | refine blk_drew ?_ | refine blk_alloc ?_ _)); exact BK101.out⟩, ⟨by repeat (first | (with_reducible first | exact HB.out | apply below_alloc | apply pw_below_drewN | apply below_drew1 | refine below_set ?_ GE101.out) | exact HB.out)⟩⟩
  case round =>
    clear H'
    try clear p2
    try clear hcz3_0
    try clear hcz3_1
    try clear hcz3_2
    try clear hcz3_3
    try clear hfz3_0
    try clear hfz3_1
    try clear hfz3_2
    try clear hfz3_3
    obtain ⟨x8_1, rfl, HA, HK1, BK101, HB⟩ := hrel
    cases gk with
    | zero => exact absurd HA.out (by simp [delta_Delta_right.l0])
    | succ k1 =>
      have H := HA.out
      clear HA
      simp only [delta_Delta_right.l0] at H
      by_cases c4 : x8_1 < (l0_2.length : Int)
      · rw [if_pos c4] at H
        have c4b0 : decide (x8_1 < (l0_2.length : Int)) = true := decide_eq_true c4
        clear c4
        by_cases c5 : 0 ≤ x8_1
        · rw [if_pos c5] at H
          have c5b0 : decide (0 ≤ x8_1) = true := decide_eq_true c5
          clear c5
          by_cases c6 : x8_1 < (l0_2.length : Int)
          · rw [if_pos c6] at H
            have c6b0 : decide (x8_1 < (l0_2.length : Int)) = true := decide_eq_true c6
            clear c6
            by_cases c7 : (wrap64 (rd l0_2 x8_1)) ≥ 48
            · rw [if_pos c7] at H
              have c7b0 : decide (48 ≤ (wrap64 (rd l0_2 x8_1))) = true := decide_eq_true c7
              clear c7
              obtain rfl := Option.some.inj H
              have p102 : 0 ≤ (x8_1 : Int) := of_decide_eq_true (by first | (with_reducible assumption) | assumption)
              have q102 : x8_1 < (l0_2.length : Int) := of_decide_eq_true (by first | (with_reducible assumption) | assumption)
              obtain ⟨ad102, e102, hx102_0⟩ := Kd.at_int HR0_2.out x8_1 p102 q102
              cases e102
              replace hx102_0 := (HB.out.cell (World.block_lt_of_cell? w _ hx102_0)).trans hx102_0
              replace p102 := eq_true p102
              replace q102 := eq_true q102
              go_wp2
              go_ret
              exact ⟨by first | rfl | (simp [errW_none, errW_some] <;> rfl) | (simp [*, errW_none, errW_some] <;> rfl), by repeat (first | (with_reducible first | exact HB.out | apply below_alloc | apply pw_below_drewN | apply below_drew1 | refine below_set ?_ GE101.out) | exact HB.out)⟩
            · rw [if_neg c7] at H
              have c7b0 : decide (48 ≤ (wrap64 (rd l0_2 x8_1))) = false := decide_eq_false c7
              clear c7
              by_cases c8 : x8_1 > 0
              · rw [if_pos c8] at H
                have c8b0 : decide (0 < x8_1) = true := decide_eq_true c8
                clear c8
                obtain ⟨ji9, hji9⟩ : ∃ j_ : Int, (wrap64 (x8_1 - 1)) = j_ := ⟨_, rfl⟩
                replace H : (if 0 ≤ (ji9) then (if (ji9) < (l0_2.length : Int) then (if (rd l0_2 x8_1) ≤ (rd l0_2 (ji9)) then (some false) else (delta_Delta_right.l0 k1 l0_2 (l0_2.length : Int) (wrap64 (x8_1 + 1)) a0_0 a0_1 l0_2 l0_3)) else (none)) else (none)) = some r := by first | (rw [hji9] at H; exact H) | (simp only [hji9] at H ⊢; exact H)
                have hji9w : (IntKind.i64.wrap (x8_1 - 1)) = ji9 := (i64_w _).trans hji9
                by_cases c10 : 0 ≤ (ji9)
                · rw [if_pos c10] at H
                  have c10b0 : decide (0 ≤ (ji9)) = true := decide_eq_true c10
                  clear c10
                  by_cases c11 : (ji9) < (l0_2.length : Int)
                  · rw [if_pos c11] at H
                    have c11b0 : decide ((ji9) < (l0_2.length : Int)) = true := decide_eq_true c11
                    clear c11
                    by_cases c12 : (rd l0_2 x8_1) ≤ (rd l0_2 (ji9))
                    · rw [if_pos c12] at H
                      have c12b0 : decide ((rd l0_2 x8_1) ≤ (rd l0_2 (ji9))) = true := decide_eq_true c12
                      clear c12
                      obtain rfl := Option.some.inj H
                      have p102 : 0 ≤ (x8_1 : Int) := of_decide_eq_true (by first | (with_reducible assumption) | assumption)
                      have q102 : x8_1 < (l0_2.length : Int) := of_decide_eq_true (by first | (with_reducible assumption) | assumption)
                      obtain ⟨ad102, e102, hx102_0⟩ := Kd.at_int HR0_2.out x8_1 p102 q102
                      cases e102
                      replace hx102_0 := (HB.out.cell (World.block_lt_of_cell? w _ hx102_0)).trans hx102_0
                      replace p102 := eq_true p102
                      replace q102 := eq_true q102
                      have hcz13_0 : wr.cell? ⟨gb101, 0, none⟩ = some (.int .u32 a0_0) := (blk_cell BK101.out 0).trans rfl
                      have hcz13_1 : wr.cell? ⟨gb101, 1, none⟩ = some (.int .u32 a0_1) := (blk_cell BK101.out 1).trans rfl
                      have hcz13_2 : wr.cell? ⟨gb101, 2, none⟩ = some (.slice (some ad102) l0_2.length c0_2) := (blk_cell BK101.out 2).trans rfl
                      have hcz13_3 : wr.cell? ⟨gb101, 3, none⟩ = some (.slice A0_3 l0_3.length c0_3) := (blk_cell BK101.out 3).trans rfl
                      have hfz13_0 := blk_frozen BK101.out 0
                      have hfz13_1 := blk_frozen BK101.out 1
                      have hfz13_2 := blk_frozen BK101.out 2
                      have hfz13_3 := blk_frozen BK101.out 3
                      have p103 : 0 ≤ ((ji9) : Int) := of_decide_eq_true (by first | (with_reducible assumption) | assumption)
                      have q103 : (ji9) < (l0_2.length : Int) := of_decide_eq_true (by first | (with_reducible assumption) | assumption)
                      obtain ⟨ad103, e103, hx103_0⟩ := Kd.at_int HR0_2.out (ji9) p103 q103
                      obtain rfl : ad102 = ad103 := (by injection e103)
                      replace hx103_0 := (HB.out.cell (World.block_lt_of_cell? w _ hx103_0)).trans hx103_0
                      replace p103 := eq_true p103
                      replace q103 := eq_true q103
                      go_wp2
                      go_ret
                      exact ⟨by first | rfl | (simp [errW_none, errW_some] <;> rfl) | (simp only [← hji9]; first | rfl | (simp [errW_none, errW_some] <;> rfl)) | (simp [*, errW_none, errW_some] <;> rfl), by repeat (first | (with_reducible first | exact HB.out | apply below_alloc | apply pw_below_drewN | apply below_drew1 | refine below_set ?_ GE101.out) | exact HB.out)⟩
                    · rw [if_neg c12] at H
                      have c12b0 : decide ((rd l0_2 x8_1) ≤ (rd l0_2 (ji9))) = false := decide_eq_false c12
                      clear c12
                      have H' := Aside0.mk H
                      clear H
                      have p102 : 0 ≤ (x8_1 : Int) := of_decide_eq_true (by first | (with_reducible assumption) | assumption)
                      have q102 : x8_1 < (l0_2.length : Int) := of_decide_eq_true (by first | (with_reducible assumption) | assumption)
                      obtain ⟨ad102, e102, hx102_0⟩ := Kd.at_int HR0_2.out x8_1 p102 q102
                      cases e102
                      replace hx102_0 := (HB.out.cell (World.block_lt_of_cell? w _ hx102_0)).trans hx102_0
                      replace p102 := eq_true p102
                      replace q102 := eq_true q102
                      have hcz14_0 : wr.cell? ⟨gb101, 0, none⟩ = some (.int .u32 a0_0) := (blk_cell BK101.out 0).trans rfl
                      have hcz14_1 : wr.cell? ⟨gb101, 1, none⟩ = some (.int .u32 a0_1) := (blk_cell BK101.out 1).trans rfl
                      have hcz14_2 : wr.cell? ⟨gb101, 2, none⟩ = some (.slice (some ad102) l0_2.length c0_2) := (blk_cell BK101.out 2).trans rfl
                      have hcz14_3 : wr.cell? ⟨gb101, 3, none⟩ = some (.slice A0_3 l0_3.length c0_3) := (blk_cell BK101.out 3).trans rfl
                      have hfz14_0 := blk_frozen BK101.out 0
                      have hfz14_1 := blk_frozen BK101.out 1
                      have hfz14_2 := blk_frozen BK101.out 2
                      have hfz14_3 := blk_frozen BK101.out 3
                      have p103 : 0 ≤ ((ji9) : Int) := of_decide_eq_true (by first | (with_reducible assumption) | assumption)
                      have q103 : (ji9) < (l0_2.length : Int) := of_decide_eq_true (by first | (with_reducible assumption) | assumption)
                      obtain ⟨ad103, e103, hx103_0⟩ := Kd.at_int HR0_2.out (ji9) p103 q103
                      obtain rfl : ad102 = ad103 := (by injection e103)
                      replace hx103_0 := (HB.out.cell (World.block_lt_of_cell? w _ hx103_0)).trans hx103_0
                      replace p103 := eq_true p103
                      replace q103 := eq_true q103
                      go_wp2
                      go_roundg k1
                      case measure => have := HK1.out; omega
                      case rel => exact ⟨(wrap64 (x8_1 + 1)), (by first | rfl | (simp; done) | (simp [*]; done)), H', ⟨by have := HK1.out; omega⟩, ⟨by (with_reducible repeat (first | refine blk_drewN ?_ _ | refine blk_drew ?_ | refine blk_alloc ?_ _)); exact BK101.out⟩, ⟨by repeat (first | (with_reducible first | exact HB.out | apply below_alloc | apply pw_below_drewN | apply below_drew1 | refine below_set ?_ GE101.out) | exact HB.out)⟩⟩
                  · rw [if_neg c11] at H
                    exact absurd H (by simp)
                · rw [if_neg c10] at H
                  exact absurd H (by simp)
              · rw [if_neg c8] at H
                have c8b0 : decide (0 < x8_1) = false := decide_eq_false c8
                clear c8
                have H' := Aside0.mk H
                clear H
                have p102 : 0 ≤ (x8_1 : Int) := of_decide_eq_true (by first | (with_reducible assumption) | assumption)
                have q102 : x8_1 < (l0_2.length : Int) := of_decide_eq_true (by first | (with_reducible assumption) | assumption)
                obtain ⟨ad102, e102, hx102_0⟩ := Kd.at_int HR0_2.out x8_1 p102 q102
                cases e102
                replace hx102_0 := (HB.out.cell (World.block_lt_of_cell? w _ hx102_0)).trans hx102_0
                replace p102 := eq_true p102
                replace q102 := eq_true q102
                go_wp2
                go_roundg k1
                case measure => have := HK1.out; omega
                case rel => exact ⟨(wrap64 (x8_1 + 1)), (by first | rfl | (simp; done) | (simp [*]; done)), H', ⟨by have := HK1.out; omega⟩, ⟨by (with_reducible repeat (first | refine blk_drewN ?_ _ | refine blk_drew ?_ | refine blk_alloc ?_ _)); exact BK101.out⟩, ⟨by repeat (first | (with_reducible first | exact HB.out | apply below_alloc | apply pw_below_drewN | apply below_drew1 | refine below_set ?_ GE101.out) | exact HB.out)⟩⟩
          · rw [if_neg c6] at H
            exact absurd H (by simp)
        · rw [if_neg c5] at H
          exact absurd H (by simp)
      · rw [if_neg c4] at H
        have c4b0 : decide (x8_1 < (l0_2.length : Int)) = false := decide_eq_false c4
        clear c4
        obtain rfl := Option.some.inj H
        have hcz15_0 : wr.cell? ⟨gb101, 0, none⟩ = some (.int .u32 a0_0) := (blk_cell BK101.out 0).trans rfl
        have hcz15_1 : wr.cell? ⟨gb101, 1, none⟩ = some (.int .u32 a0_1) := (blk_cell BK101.out 1).trans rfl
        have hcz15_2 : wr.cell? ⟨gb101, 2, none⟩ = some (.slice A0_2 l0_2.length c0_2) := (blk_cell BK101.out 2).trans rfl
        have hcz15_3 : wr.cell? ⟨gb101, 3, none⟩ = some (.slice A0_3 l0_3.length c0_3) := (blk_cell BK101.out 3).trans rfl
        have hfz15_0 := blk_frozen BK101.out 0
        have hfz15_1 := blk_frozen BK101.out 1
        have hfz15_2 := blk_frozen BK101.out 2
        have hfz15_3 := blk_frozen BK101.out 3
        go_wp2
        go_ret
        exact ⟨by first | rfl | (simp [errW_none, errW_some] <;> rfl) | (simp [*, errW_none, errW_some] <;> rfl), by repeat (first | (with_reducible first | exact HB.out | apply below_alloc | apply pw_below_drewN | apply below_drew1 | refine below_set ?_ GE101.out) | exact HB.out)⟩

def hoodwinkref01_Same.l0 : Nat → List Int → List Int → Int → Int → Option (Bool)
  | 0, _, _, _, _ => none
  | k + 1, x0, x1, x12, x13 => if x13 < x12 then (if 0 ≤ x13 then (if x13 < (x0.length : Int) then (if x13 < (x1.length : Int) then (if (rd x0 x13) = (rd x1 x13) then (hoodwinkref01_Same.l0 k x0 x1 x12 (wrap64 (x13 + 1))) else (some false)) else (none)) else (none)) else (none)) else (some true)
def hoodwinkref01_Same.f (k : Nat) (l0 : List Int) (l1 : List Int) : Option (Bool) := if (l0.length : Int) = (l1.length : Int) then (hoodwinkref01_Same.l0 k l0 l1 (l0.length : Int) 0) else (some false)
theorem hoodwinkref01_Same.mono_l : ∀ k, (∀ y0 y1 y2 y3, LeO (hoodwinkref01_Same.l0 k y0 y1 y2 y3) (hoodwinkref01_Same.l0 (k + 1) y0 y1 y2 y3))
  | 0 => fun _ _ _ _ r h => by simp [hoodwinkref01_Same.l0] at h
  | k + 1 => by
    have ih0 := hoodwinkref01_Same.mono_l k
    · intro y0 y1 y2 y3
      unfold hoodwinkref01_Same.l0
      repeat' first
      | (with_reducible exact ih0 _ _ _ _)
      | (with_reducible exact LeO.refl _)
      | (with_reducible exact LeO.none _)
      | (with_reducible refine LeO.ite ?_ ?_)
      | (with_reducible refine LeO.bind ?_ (fun _ => ?_))
      | exact ih0 _ _ _ _
      | exact LeO.none _
      | refine LeO.ite ?_ ?_
      | refine LeO.bind ?_ (fun _ => ?_)
theorem hoodwinkref01_Same.mono : ∀ a0 a1 k, LeO (hoodwinkref01_Same.f k a0 a1) (hoodwinkref01_Same.f (k + 1) a0 a1) := by
  intro a0 a1 k
  have ih0 := hoodwinkref01_Same.mono_l k
  unfold hoodwinkref01_Same.f
  repeat' first
      | (with_reducible exact ih0 _ _ _ _)
      | (with_reducible exact LeO.refl _)
      | (with_reducible exact LeO.none _)
      | (with_reducible refine LeO.ite ?_ ?_)
      | (with_reducible refine LeO.bind ?_ (fun _ => ?_))
      | exact ih0 _ _ _ _
      | exact LeO.none _
      | refine LeO.ite ?_ ?_
      | refine LeO.bind ?_ (fun _ => ?_)
set_option maxHeartbeats 8000000 in
set_option maxRecDepth 100000 in
theorem hoodwinkref01_Same.calls (k : Nat) (A0 : Option Addr) (c0 : Nat) (l0 : List Int) (A1 : Option Addr) (c1 : Nat) (l1 : List Int) (r : Bool) (w : World) (hr0 : Kd.C (Kd.int .u8) w A0 l0.length l0) (hc0 : l0.length ≤ c0) (hr1 : Kd.C (Kd.int .u8) w A1 l1.length l1) (hc1 : l1.length ≤ c1) (h : hoodwinkref01_Same.f k l0 l1 = some r) :
    Calls Try.prog 18 #[.slice A0 l0.length c0, .slice A1 l1.length c1] w fun e w' => e = .returned (.bool r) ∧ Drawn0 w w' := by
  have HR0 := Aside0.mk hr0
  have HC0 := Aside0.mk hc0
  clear hr0 hc0
  have HR1 := Aside0.mk hr1
  have HC1 := Aside0.mk hc1
  clear hr1 hc1
  have H : (if (l0.length : Int) = (l1.length : Int) then (hoodwinkref01_Same.l0 k l0 l1 (l0.length : Int) 0) else (some false)) = some r := h
  clear h
  by_cases c3 : (l0.length : Int) = (l1.length : Int)
  · rw [if_pos c3] at H
    have c3b0 : ((l0.length : Int) == (l1.length : Int)) = true := beq_iff_eq.mpr c3
    have c3b1 : ((l0.length : Int) != (l1.length : Int)) = false := bne_eq_false_iff_eq.mpr c3
    have c3b2 : (l0.length == l1.length) = true := by first | simpa using c3 | (simp at c3 ⊢; omega)
    clear c3
    have H' := Aside0.mk H
    clear H
    go_enter Try.func18, Try.ntmps18
    go_wp2
    repeat (go_quiet (fail); try go_wp2)
    go_loopg [13] k (fun kq v13 w' => ∃ (x13_1 : Int), v13 = .int .i64 x13_1 ∧ Aside0 (hoodwinkref01_Same.l0 kq l0 l1 (l0.length : Int) x13_1 = some r) ∧ Aside0 (kq ≤ k) ∧ Drawn0 w w')
    case atStart => exact ⟨(0), (by first | rfl | (simp; done) | (simp [*]; done)), H', ⟨Nat.le_refl _⟩, by repeat (first | exact Drawn0.refl _ | apply Drawn0.step)⟩
    case round =>
      clear H'
      try clear c1
      try clear p2
      try clear c3
      try clear c3b0
      try clear c3b1
      try clear c3b2
      obtain ⟨x13_1, rfl, HA, HK1, ⟨m1, rfl⟩⟩ := hrel
      cases gk with
      | zero => exact absurd HA.out (by simp [hoodwinkref01_Same.l0])
      | succ k1 =>
        have H := HA.out
        clear HA
        simp only [hoodwinkref01_Same.l0] at H
        by_cases c4 : x13_1 < (l0.length : Int)
        · rw [if_pos c4] at H
          have c4b0 : decide (x13_1 < (l0.length : Int)) = true := decide_eq_true c4
          clear c4
          by_cases c5 : 0 ≤ x13_1
          · rw [if_pos c5] at H
            have c5b0 : decide (0 ≤ x13_1) = true := decide_eq_true c5
            clear c5
            by_cases c6 : x13_1 < (l0.length : Int)
            · rw [if_pos c6] at H
              have c6b0 : decide (x13_1 < (l0.length : Int)) = true := decide_eq_true c6
              clear c6
              by_cases c7 : x13_1 < (l1.length : Int)
              · rw [if_pos c7] at H
                have c7b0 : decide (x13_1 < (l1.length : Int)) = true := decide_eq_true c7
                clear c7
                by_cases c8 : (rd l0 x13_1) = (rd l1 x13_1)
                · rw [if_pos c8] at H
                  have c8b0 : ((rd l0 x13_1) == (rd l1 x13_1)) = true := beq_iff_eq.mpr c8
                  have c8b1 : ((rd l0 x13_1) != (rd l1 x13_1)) = false := bne_eq_false_iff_eq.mpr c8
                  clear c8
                  have H' := Aside0.mk H
                  clear H
                  have p141 : 0 ≤ (x13_1 : Int) := of_decide_eq_true (by first | (with_reducible assumption) | assumption)
                  have q141 : x13_1 < (l0.length : Int) := of_decide_eq_true (by first | (with_reducible assumption) | assumption)
                  obtain ⟨ad141, e141, hx141_0⟩ := Kd.at_int HR0.out x13_1 p141 q141
                  cases e141
                  replace p141 := eq_true p141
                  replace q141 := eq_true q141
                  have p142 : 0 ≤ (x13_1 : Int) := of_decide_eq_true (by first | (with_reducible assumption) | assumption)
                  have q142 : x13_1 < (l1.length : Int) := of_decide_eq_true (by first | (with_reducible assumption) | assumption)
                  obtain ⟨ad142, e142, hx142_0⟩ := Kd.at_int HR1.out x13_1 p142 q142
                  cases e142
                  replace p142 := eq_true p142
                  replace q142 := eq_true q142
                  go_wp2
                  repeat (go_quiet (fail); try go_wp2)
                  go_roundg k1
                  case measure => have := HK1.out; omega
                  case rel => exact ⟨(wrap64 (x13_1 + 1)), (by first | rfl | (simp; done) | (simp [*]; done)), H', ⟨by have := HK1.out; omega⟩, by repeat (first | exact Drawn0.refl _ | apply Drawn0.step)⟩
                · rw [if_neg c8] at H
                  have c8b0 : ((rd l0 x13_1) == (rd l1 x13_1)) = false := beq_eq_false_iff_ne.mpr c8
                  have c8b1 : ((rd l0 x13_1) != (rd l1 x13_1)) = true := bne_iff_ne.mpr c8
                  obtain rfl := Option.some.inj H
                  have p141 : 0 ≤ (x13_1 : Int) := of_decide_eq_true (by first | (with_reducible assumption) | assumption)
                  have q141 : x13_1 < (l0.length : Int) := of_decide_eq_true (by first | (with_reducible assumption) | assumption)
                  obtain ⟨ad141, e141, hx141_0⟩ := Kd.at_int HR0.out x13_1 p141 q141
                  cases e141
                  replace p141 := eq_true p141
                  replace q141 := eq_true q141
                  have p142 : 0 ≤ (x13_1 : Int) := of_decide_eq_true (by first | (with_reducible assumption) | assumption)
                  have q142 : x13_1 < (l1.length : Int) := of_decide_eq_true (by first | (with_reducible assumption) | assumption)
                  obtain ⟨ad142, e142, hx142_0⟩ := Kd.at_int HR1.out x13_1 p142 q142
                  cases e142
                  replace p142 := eq_true p142
                  replace q142 := eq_true q142
                  go_wp2
                  repeat (go_quiet (fail); try go_wp2)
                  go_ret
                  exact ⟨by first | rfl | (simp; done) | (simp [*]; done), by repeat (first | exact Drawn0.refl _ | apply Drawn0.step)⟩
              · rw [if_neg c7] at H
                exact absurd H (by simp)
            · rw [if_neg c6] at H
              exact absurd H (by simp)
          · rw [if_neg c5] at H
            exact absurd H (by simp)
        · rw [if_neg c4] at H
          have c4b0 : decide (x13_1 < (l0.length : Int)) = false := decide_eq_false c4
          clear c4
          obtain rfl := Option.some.inj H
          go_wp2
          repeat (go_quiet (fail); try go_wp2)
          go_ret
          exact ⟨by first | rfl | (simp; done) | (simp [*]; done), by repeat (first | exact Drawn0.refl _ | apply Drawn0.step)⟩
  · rw [if_neg c3] at H
    have c3b0 : ((l0.length : Int) == (l1.length : Int)) = false := beq_eq_false_iff_ne.mpr c3
    have c3b1 : ((l0.length : Int) != (l1.length : Int)) = true := bne_iff_ne.mpr c3
    have c3b2 : (l0.length == l1.length) = false := by first | simpa using c3 | (simp at c3 ⊢; omega)
    obtain rfl := Option.some.inj H
    go_enter Try.func18, Try.ntmps18
    go_wp2
    repeat (go_quiet (fail); try go_wp2)
    go_ret
    exact ⟨by first | rfl | (simp; done) | (simp [*]; done), by repeat (first | exact Drawn0.refl _ | apply Drawn0.step)⟩

def hoodwinkref01_Join.l0 : Nat → List Int → List (List Int) → Int → Int → Option (List Int)
  | 0, _, _, _, _ => none
  | k + 1, x3, x6, x7, x8 => if x8 < x7 then (if 0 ≤ x8 then (if x8 < (x6.length : Int) then (if x3.length + (rd_L5 x6 x8).length < 140737488355328 then (hoodwinkref01_Join.l0 k (x3 ++ (rd_L5 x6 x8)) x6 x7 (wrap64 (x8 + 1))) else (none)) else (none)) else (none)) else (some x3)
def hoodwinkref01_Join.f (k : Nat) (l0 : List (List Int)) : Option (List Int) := hoodwinkref01_Join.l0 k ([] : List Int) l0 (l0.length : Int) 0
set_option maxHeartbeats 8000000 in
set_option maxRecDepth 100000 in
theorem hoodwinkref01_Join.calls (k : Nat) (A0 : Option Addr) (c0 : Nat) (l0 : List (List Int)) (r : List Int) (w : World) (hr0 : Kd.C (Kd.slice 5 (Kd.int .u8)) w A0 l0.length l0) (hc0 : l0.length ≤ c0) (h : hoodwinkref01_Join.f k l0 = some r) :
    Calls Try.prog 21 #[.slice A0 l0.length c0] w fun e w' => ∃ v0_ : Value, e = .returned (v0_) ∧ Kd.R (Kd.int .u8) 5 w' w.heap.size (fun _ => True) v0_ r ∧ Below w.heap.size w w' := by
  have HR0 := Aside0.mk hr0
  have HC0 := Aside0.mk hc0
  clear hr0 hc0
  have HB := Aside0.mk (Below.refl w.heap.size w)
  have H : (hoodwinkref01_Join.l0 k ([] : List Int) l0 (l0.length : Int) 0) = some r := h
  clear h
  have H' := Aside0.mk H
  clear H
  go_enter Try.func21, Try.ntmps21
  go_wp2
  go_loopg [3, 8] k (fun kq v3 v8 w' => ∃ (x3_1 : List Int) (x8_1 : Int), v8 = .int .i64 x8_1 ∧ Aside0 (hoodwinkref01_Join.l0 kq x3_1 l0 (l0.length : Int) x8_1 = some r) ∧ Aside0 (kq ≤ k) ∧ Aside0 (Kd.R (Kd.int .u8) 5 w' w.heap.size (fun _ => True) v3 x3_1) ∧ Aside0 (Below w.heap.size w w'))
  case atStart => exact ⟨(([] : List Int)), (0), (by first | rfl | (simp; done) | (simp [*]; done)), H', ⟨Nat.le_refl _⟩, ⟨by first | exact Kd.R_nil _ _ _ _ _ | exact Kd.N_nil _ _ _ _ _ | exact Kd.V_nil _ _ _ _ _ | exact Kd.Q_nil _ _ _ _ _ | exact Kd.S_nil _ _ _ _ _⟩, ⟨by repeat (first | (with_reducible first | exact HB.out | apply below_alloc | apply pw_below_drewN | apply below_drew1) | exact HB.out)⟩⟩
  case round =>
    clear H'
    obtain ⟨x3_1, x8_1, rfl, HA, HK1, HO_3, HB⟩ := hrel
    cases gk with
    | zero => exact absurd HA.out (by simp [hoodwinkref01_Join.l0])
    | succ k1 =>
      have H := HA.out
      clear HA
      simp only [hoodwinkref01_Join.l0] at H
      by_cases c2 : x8_1 < (l0.length : Int)
      · rw [if_pos c2] at H
        have c2b0 : decide (x8_1 < (l0.length : Int)) = true := decide_eq_true c2
        clear c2
        by_cases c3 : 0 ≤ x8_1
        · rw [if_pos c3] at H
          have c3b0 : decide (0 ≤ x8_1) = true := decide_eq_true c3
          clear c3
          by_cases c4 : x8_1 < (l0.length : Int)
          · rw [if_pos c4] at H
            have c4b0 : decide (x8_1 < (l0.length : Int)) = true := decide_eq_true c4
            clear c4
            by_cases c5 : x3_1.length + (rd_L5 l0 x8_1).length < 140737488355328
            · rw [if_pos c5] at H
              have LMc5 := Aside0.mk c5
              clear c5
              obtain ⟨y165, hy165⟩ : ∃ y_ : List Int, y_ = (x3_1 ++ (rd_L5 l0 x8_1)) := ⟨_, rfl⟩
              replace H : (hoodwinkref01_Join.l0 k1 y165 l0 (l0.length : Int) (wrap64 (x8_1 + 1))) = some r := by first | (rw [hy165]; with_reducible exact H) | (have H2_ := (Option.bind_some _ _).symm.trans H; rw [hy165]; with_reducible exact H2_) | (have H2_ := (Option.bind_some _ _).symm.trans H; with_reducible exact H2_) | with_reducible exact H | (rw [hy165]; exact H) | exact H
              have Ny165 := Aside0.mk hy165
              clear hy165
              have H' := Aside0.mk H
              clear H
              have p164 : 0 ≤ (x8_1 : Int) := of_decide_eq_true (by first | (with_reducible assumption) | assumption)
              have q164 : x8_1 < (l0.length : Int) := of_decide_eq_true (by first | (with_reducible assumption) | assumption)
              obtain ⟨ad164, A164_0, c164_0, e164, hx164_0, hl164_0, hi164_0⟩ := at_L5 HR0.out x8_1 p164 q164
              cases e164
              replace hx164_0 := (HB.out.cell (World.block_lt_of_cell? w _ hx164_0)).trans hx164_0
              have HR164_0 := Aside0.mk hi164_0
              have HC164_0 := Aside0.mk hl164_0
              clear hi164_0 hl164_0
              replace p164 := eq_true p164
              replace q164 := eq_true q164
              go_wp2_with (first | ((with_reducible refine gate_builtin (b := .append) (xs := #[.tmp 12, .tmp 13]) rfl ?_); at_builtin; refine Kd.R_append_rows (Kd.int .u8) (w0 := w) w.heap.size rfl (.tmp 12) (.tmp 13) 23 5 (.int .u8 0) 1 rfl Try.underlying23 info5 rfl (by decide) (by omega) u3 x3_1 (rd_L5 l0 x8_1) _ _ _ (fun _ => True) (fun _ => False) rfl rfl ?aO ?aR (fun _ _ h => h) (fun _ h => h.elim) ?aF ?aB ?aS ?aL ?_; (case aR => repeat (first | exact (Kd.C_below HR164_0.out HB.out) | (with_reducible refine Kd.C_alloc ?_ _) | (with_reducible refine Kd.C_drewN ?_ _) | (with_reducible refine Kd.C_drew ?_))); (case aB => exact (by repeat (first | (with_reducible first | exact HB.out | apply below_alloc | apply pw_below_drewN | apply below_drew1) | exact HB.out))); (case aF => exact (fun _ _ => trivial)); (case aO => exact (by (with_reducible repeat (first | apply Kd.R_alloc | apply Kd.R_drewN | apply Kd.R_drew)); exact HO_3.out)); (case aS => exact (below_size (by repeat (first | (with_reducible first | exact HB.out | apply below_alloc | apply pw_below_drewN | apply below_drew1) | exact HB.out)))); (case aL => have := LMc5.out; omega); intro v166 w6 ho hb hg hat; rw [← Ny165.out] at ho; have n0_ := Aside0.mk (hb); have n1_ := Aside0.mk (ho); clear HB; clear HO_3; have HB := n0_; have HO167 := n1_; clear n0_ n1_; clear ho hb hg hat))
              go_roundg k1
              case measure => have := HK1.out; omega
              case rel => exact ⟨(y165), (wrap64 (x8_1 + 1)), (by first | rfl | (simp; done) | (simp [*]; done)), H', ⟨by have := HK1.out; omega⟩, ⟨by (with_reducible repeat (first | apply Kd.R_alloc | apply Kd.R_drewN | apply Kd.R_drew)); exact HO167.out⟩, ⟨by repeat (first | (with_reducible first | exact HB.out | apply below_alloc | apply pw_below_drewN | apply below_drew1) | exact HB.out)⟩⟩
            · rw [if_neg c5] at H
              exact absurd H (by simp)
          · rw [if_neg c4] at H
            exact absurd H (by simp)
        · rw [if_neg c3] at H
          exact absurd H (by simp)
      · rw [if_neg c2] at H
        have c2b0 : decide (x8_1 < (l0.length : Int)) = false := decide_eq_false c2
        clear c2
        obtain rfl := Option.some.inj H
        go_wp2
        go_ret
        exact ⟨_, by first | rfl | (simp [errW_none, errW_some] <;> rfl) | (simp [*, errW_none, errW_some] <;> rfl), by (with_reducible repeat (first | apply Kd.R_alloc | apply Kd.R_drewN | apply Kd.R_drew)); exact HO_3.out, by repeat (first | (with_reducible first | exact HB.out | apply below_alloc | apply pw_below_drewN | apply below_drew1) | exact HB.out)⟩

def hoodwinkref01_Low.l0 : Nat → Int → Int → List Int → Int → Option (List Int)
  | 0, _, _, _, _ => none
  | k + 1, x0, x1, x5, x6 => if x6 < x1 then (if x5.length < 140737488355328 then (hoodwinkref01_Low.l0 k (IntKind.u64.wrap (Int.tdiv x0 256)) x1 (x5 ++ [(Int.tmod x0 256) % 256]) (wrap64 (x6 + 1))) else (none)) else (some x5)
def hoodwinkref01_Low.f (k : Nat) (a0 : Int) (a1 : Int) : Option (List Int) := hoodwinkref01_Low.l0 k a0 a1 ([] : List Int) 0
set_option maxHeartbeats 8000000 in
set_option maxRecDepth 100000 in
theorem hoodwinkref01_Low.calls (k : Nat) (a0 : Int) (a1 : Int) (r : List Int) (w : World) (h : hoodwinkref01_Low.f k a0 a1 = some r) :
    Calls Try.prog 48 #[.int .u64 a0, .int .i64 a1] w fun e w' => ∃ v0_ : Value, e = .returned (v0_) ∧ Kd.R (Kd.int .u8) 5 w' w.heap.size (fun _ => True) v0_ r ∧ Below w.heap.size w w' := by
  have HB := Aside0.mk (Below.refl w.heap.size w)
  have H : (hoodwinkref01_Low.l0 k a0 a1 ([] : List Int) 0) = some r := h
  clear h
  have H' := Aside0.mk H
  clear H
  go_enter Try.func48, Try.ntmps48
  go_wp2
  go_loopg [0, 5, 6] k (fun kq v0 v5 v6 w' => ∃ (x0_1 : Int) (x5_1 : List Int) (x6_1 : Int), v0 = .int .u64 x0_1 ∧ v6 = .int .i64 x6_1 ∧ Aside0 (hoodwinkref01_Low.l0 kq x0_1 a1 x5_1 x6_1 = some r) ∧ Aside0 (kq ≤ k) ∧ Aside0 (Kd.R (Kd.int .u8) 5 w' w.heap.size (fun _ => True) v5 x5_1) ∧ Aside0 (Below w.heap.size w w'))
  case atStart => exact ⟨(a0), (([] : List Int)), (0), (by first | rfl | (simp; done) | (simp [*]; done)), (by first | rfl | (simp; done) | (simp [*]; done)), H', ⟨Nat.le_refl _⟩, ⟨by first | exact Kd.R_nil _ _ _ _ _ | exact Kd.N_nil _ _ _ _ _ | exact Kd.V_nil _ _ _ _ _ | exact Kd.Q_nil _ _ _ _ _ | exact Kd.S_nil _ _ _ _ _⟩, ⟨by repeat (first | (with_reducible first | exact HB.out | apply below_alloc | apply pw_below_drewN | apply below_drew1) | exact HB.out)⟩⟩
  case round =>
    clear H'
    try clear p2
    obtain ⟨x0_1, x5_1, x6_1, rfl, rfl, HA, HK1, HO_5, HB⟩ := hrel
    cases gk with
    | zero => exact absurd HA.out (by simp [hoodwinkref01_Low.l0])
    | succ k1 =>
      have H := HA.out
      clear HA
      simp only [hoodwinkref01_Low.l0] at H
      by_cases c3 : x6_1 < a1
      · rw [if_pos c3] at H
        have c3b0 : decide (x6_1 < a1) = true := decide_eq_true c3
        clear c3
        by_cases c4 : x5_1.length < 140737488355328
        · rw [if_pos c4] at H
          have LMc4 := Aside0.mk c4
          clear c4
          obtain ⟨y168, hy168⟩ : ∃ y_ : List Int, y_ = (x5_1 ++ [(Int.tmod x0_1 256) % 256]) := ⟨_, rfl⟩
          replace H : (hoodwinkref01_Low.l0 k1 (IntKind.u64.wrap (Int.tdiv x0_1 256)) a1 y168 (wrap64 (x6_1 + 1))) = some r := by first | (rw [hy168]; with_reducible exact H) | (have H2_ := (Option.bind_some _ _).symm.trans H; rw [hy168]; with_reducible exact H2_) | (have H2_ := (Option.bind_some _ _).symm.trans H; with_reducible exact H2_) | with_reducible exact H | (rw [hy168]; exact H) | exact H
          have Ny168 := Aside0.mk hy168
          clear hy168
          have H' := Aside0.mk H
          clear H
          go_wp2_with (first | ((with_reducible refine gate_builtin (b := .append) (xs := #[.tmp 12, .tmp 16]) rfl ?_); at_builtin; refine Kd.R_append (Kd.int .u8) (w0 := w) w.heap.size rfl (.tmp 12) (.tmp 16) 23 5 (.int .u8 0) 1 rfl Try.underlying23 info5 rfl (by decide) (by omega) u5 x5_1 ((Int.tmod x0_1 256) % 256) [.int .u8 ((Int.tmod x0_1 256) % 256)] (fun _ => True) (fun _ => False) rfl rfl ?aP (fun _ hk => hk.elim) ?aF ?aO ?aB ?aS ?aL ?_; (case aP => exact rfl); (case aB => exact (by repeat (first | (with_reducible first | exact HB.out | apply below_alloc | apply pw_below_drewN | apply below_drew1) | exact HB.out))); (case aF => exact (fun _ _ => trivial)); (case aO => exact (by (with_reducible repeat (first | apply Kd.R_alloc | apply Kd.R_drewN | apply Kd.R_drew)); exact HO_5.out)); (case aS => exact (below_size (by repeat (first | (with_reducible first | exact HB.out | apply below_alloc | apply pw_below_drewN | apply below_drew1) | exact HB.out)))); (case aL => have := LMc4.out; omega); intro v169 w5 ho hb hg hat; rw [← Ny168.out] at ho; have n0_ := Aside0.mk (hb); have n1_ := Aside0.mk (ho); clear HB; clear HO_5; have HB := n0_; have HO170 := n1_; clear n0_ n1_; clear ho hb hg hat))
          go_roundg k1
          case measure => have := HK1.out; omega
          case rel => exact ⟨(IntKind.u64.wrap (Int.tdiv x0_1 256)), (y168), (wrap64 (x6_1 + 1)), (by first | rfl | (simp; done) | (simp [*]; done)), (by first | rfl | (simp; done) | (simp [*]; done)), H', ⟨by have := HK1.out; omega⟩, ⟨by (with_reducible repeat (first | apply Kd.R_alloc | apply Kd.R_drewN | apply Kd.R_drew)); exact HO170.out⟩, ⟨by repeat (first | (with_reducible first | exact HB.out | apply below_alloc | apply pw_below_drewN | apply below_drew1) | exact HB.out)⟩⟩
        · rw [if_neg c4] at H
          exact absurd H (by simp)
      · rw [if_neg c3] at H
        have c3b0 : decide (x6_1 < a1) = false := decide_eq_false c3
        clear c3
        obtain rfl := Option.some.inj H
        go_wp2
        go_ret
        exact ⟨_, by first | rfl | (simp [errW_none, errW_some] <;> rfl) | (simp [*, errW_none, errW_some] <;> rfl), by (with_reducible repeat (first | apply Kd.R_alloc | apply Kd.R_drewN | apply Kd.R_drew)); exact HO_5.out, by repeat (first | (with_reducible first | exact HB.out | apply below_alloc | apply pw_below_drewN | apply below_drew1) | exact HB.out)⟩

-- NOT PRINTED: function 3 (hoodwinklaw11_FrameSays)

end Go.Proofs.Yticpjidcgaaldaa

namespace Go.Proofs.Yticpjidcgaaldaa
open Go.RowKit Go.Proofs.YticpjidcgaaldaaW.PrintWords Go.Proofs.YticpjidcgaaldaaW.PrintLast Go.Proofs.YticpjidcgaaldaaW.PrintMore
attribute [local go_sem] max2_int min2_int max_two min_two max_three min_three max_four min_four   -- for this text's walks alone
set_option linter.unusedVariables false
set_option linter.unusedSimpArgs false

end Go.Proofs.Yticpjidcgaaldaa

namespace Go.Proofs.Yticpjidcgaaldaa
open Go.RowKit Go.Proofs.YticpjidcgaaldaaW.PrintWords Go.Proofs.YticpjidcgaaldaaW.PrintLast Go.Proofs.YticpjidcgaaldaaW.PrintMore

def Bytes (l : List Int) : Prop := ∀ b ∈ l, 0 ≤ b ∧ b < 256
theorem Bytes.nat {l : List Int} (h : Bytes l) {j : Nat} (hj : j < l.length) : ∃ n : Nat, l[j] = (n : Int) ∧ n < 256 := by
  have := h _ (List.getElem_mem hj)
  exact ⟨l[j].toNat, by omega, by omega⟩
theorem Bytes.append {a b : List Int} (ha : Bytes a) (hb : Bytes b) : Bytes (a ++ b) := fun x hx => (List.mem_append.1 hx).elim (ha x) (hb x)
theorem Bytes.take {a : List Int} (ha : Bytes a) (k : Nat) : Bytes (a.take k) := fun x hx => ha x (List.mem_of_mem_take hx)
theorem Bytes.drop {a : List Int} (ha : Bytes a) (k : Nat) : Bytes (a.drop k) := fun x hx => ha x (List.mem_of_mem_drop hx)
theorem Bytes.nil : Bytes [] := fun x hx => by cases hx
theorem Bytes.flatten {l : List (List Int)} (h : ∀ p ∈ l, Bytes p) : Bytes l.flatten := fun x hx => by
  obtain ⟨p, hp, hxp⟩ := List.mem_flatten.1 hx
  exact h p hp x hxp

theorem rd_getElem {xs : List Int} {j : Nat} (h : j < xs.length) : rd xs (j : Int) = xs[j] := by
  unfold rd; rw [List.getD_eq_getElem?_getD, Int.toNat_natCast, List.getElem?_eq_getElem h]; rfl
theorem take_snoc {α : Type} {xs : List α} {j : Nat} (h : j < xs.length) : xs.take (j + 1) = xs.take j ++ [xs[j]] := List.take_succ_eq_append_getElem h

theorem int_at {k : IntKind} {w : World} {A : Option Addr} {n : Nat} {xs : List Int} (h : (Kd.int k).C w A n xs) (j : Nat) (hj : j < xs.length) : ∃ ad, A = some ad ∧ w.cell? (ad.add j) = some (.int k xs[j]) := by
  have hn := h.1
  obtain ⟨ad, e, hc⟩ := Kd.at_int h (j : Int) (by omega) (by omega)
  rw [rd_getElem hj, Int.toNat_natCast] at hc
  exact ⟨ad, e, hc⟩
theorem row_at {α : Type} {d : Kd α} {e : Nat} {w : World} {A : Option Addr} {n : Nat} {xs : List (List α)} (h : (Kd.slice e d).C w A n xs) (j : Nat) (hj : j < xs.length) :
    ∃ ad A0 c0, A = some ad ∧ w.cell? (ad.add j) = some (.slice A0 xs[j].length c0) ∧ xs[j].length ≤ c0 ∧ d.C w A0 xs[j].length xs[j] := by
  have hn := h.1
  obtain ⟨ad, c, e, _, hK, hc0⟩ := Kd.C_get h ([] : List α) (j : Int) (by omega) (by omega)
  have hc : ∀ i u, c[i]? = some u → w.cell? (ad.add (((j : Int)).toNat * 1 + i)) = some u := hc0
  have hx : xs.getD ((j : Int)).toNat [] = xs[j] := by rw [List.getD_eq_getElem?_getD, Int.toNat_natCast, List.getElem?_eq_getElem hj]; rfl
  rw [hx] at hK
  obtain ⟨A0, c0, rfl, l0, g0⟩ := hK
  exact ⟨ad, A0, c0, e, by have hq := hc 0 _ rfl; rwa [Nat.mul_one, Nat.add_zero, Int.toNat_natCast] at hq, l0, g0⟩

theorem C_none {α : Type} {d : Kd α} {w : World} {n : Nat} {xs : List α} (h : d.C w none n xs) : xs = [] := by
  have h1 := h.1
  cases xs with
  | nil => rfl
  | cons x l =>
    exfalso
    obtain ⟨ad, e, _⟩ := h.2.2 (by simp at h1; omega)
    cases e
theorem R_made0 {α : Type} (d : Kd α) (e : Nat) (w : World) (base : Nat) (hb : base ≤ w.heap.size) : d.R e (w.alloc (.cells #[] e)) base (fun _ => True) (.slice (some ⟨w.heap.size, 0, none⟩) 0 0) [] :=
  ⟨fun _ _ => trivial, [], World.ownsRow_made w #[] 0 hb (Nat.zero_le _) (by simp), Reps.none _ _⟩

theorem C_one_row {α : Type} {d : Kd α} {e t : Nat} {W : World} {g : Nat} {A : Option Addr} {n c : Nat} {l : List α} (hg : W.heap.size = g) (h : d.C W A n l) (hc : n ≤ c) :
    (Kd.slice e d).C (W.alloc (.cells #[.slice A n c] t)) (some ⟨g, 0, none⟩) 1 [l] := by
  obtain rfl := h.1
  subst hg
  refine ⟨rfl, by simp, fun _ => ⟨_, rfl, fun j p hj => ?_⟩⟩
  have hj0 : j = 0 := by
    have := (List.getElem?_eq_some_iff.1 hj).1
    simp at this; exact this
  subst hj0
  obtain rfl : l = p := by simpa using hj
  refine ⟨[.slice A l.length c], rfl, ⟨A, c, rfl, hc, Kd.C_alloc h _⟩, fun i u hu => ?_⟩
  have hi0 : i = 0 := by
    have := (List.getElem?_eq_some_iff.1 hu).1
    simp at this; exact this
  subst hi0
  obtain rfl : Value.slice A l.length c = u := by simpa using hu
  show (W.alloc _).cell? ((⟨W.heap.size, 0, none⟩ : Addr).add 0) = _
  rw [add_plain, World.cell?_alloc_at _ _ _ _ rfl]; rfl

theorem C_of_block {k : IntKind} {w : World} {g : Nat} {t : TypeId} {fr : Nat × Nat} {cs : Array Value} {n : Nat} {xs : List Int} (hg : w.heap[g]? = some (.cells cs t fr)) (hx : cs.toList = xs.map (Value.int k) ∧ xs.length = n ∧ n ≤ 9223372036854775807) :
    (Kd.int k).C w (some ⟨g, 0, none⟩) n xs := by
  refine ⟨hx.2.1, hx.2.2, fun _ => ⟨_, rfl, fun j p hj => ⟨[.int k p], rfl, rfl, fun i u hu => ?_⟩⟩⟩
  have hi0 : i = 0 := by
    have := (List.getElem?_eq_some_iff.1 hu).1
    simp at this; exact this
  subst hi0
  obtain rfl : Value.int k p = u := by simpa using hu
  show w.cell? ((⟨g, 0, none⟩ : Addr).add (j * 1 + 0)) = _
  rw [add_plain, Nat.mul_one, Nat.add_zero, cell_of_row w g j cs t fr hg, ← Array.getElem?_toList, hx.1, List.getElem?_map, hj]; rfl

theorem C_of_rows {α : Type} {d : Kd α} {e : Nat} {w : World} {g : Nat} {t : TypeId} {fr : Nat × Nat} {cs : Array Value} {n : Nat} {xs : List (List α)} (hg : w.heap[g]? = some (.cells cs t fr)) (hn : xs.length = n) (hm : n ≤ 9223372036854775807)
    (hx : ∀ (j : Nat) (p : List α), xs[j]? = some p → ∃ A c, cs[j]? = some (Value.slice A p.length c) ∧ p.length ≤ c ∧ d.C w A p.length p) :
    (Kd.slice e d).C w (some ⟨g, 0, none⟩) n xs := by
  refine ⟨hn, hm, fun _ => ⟨_, rfl, fun j p hj => ?_⟩⟩
  obtain ⟨A, c, hc, hl, hC⟩ := hx j p hj
  refine ⟨[.slice A p.length c], rfl, ⟨A, c, rfl, hl, hC⟩, fun i u hu => ?_⟩
  have hi0 : i = 0 := by
    have := (List.getElem?_eq_some_iff.1 hu).1
    simp at this; exact this
  subst hi0
  obtain rfl : Value.slice A p.length c = u := by simpa using hu
  show w.cell? ((⟨g, 0, none⟩ : Addr).add (j * 1 + 0)) = _
  rw [add_plain, Nat.mul_one, Nat.add_zero, cell_of_row w g j cs t fr hg, hc]
theorem C_of_two {α : Type} {d : Kd α} {e : Nat} {w : World} {g : Nat} {t : TypeId} {fr : Nat × Nat} {A B : Option Addr} {n m c c' : Nat} {x y : List α} (hg : w.heap[g]? = some (.cells #[.slice A n c, .slice B m c'] t fr))
    (hx : d.C w A n x) (hc : n ≤ c) (hy : d.C w B m y) (hc' : m ≤ c') : (Kd.slice e d).C w (some ⟨g, 0, none⟩) 2 [x, y] := by
  obtain rfl := hx.1
  obtain rfl := hy.1
  refine C_of_rows hg rfl (by omega) fun j p hj => ?_
  match j with
  | 0 => obtain rfl : x = p := by simpa using hj
         exact ⟨A, c, rfl, hc, hx⟩
  | 1 => obtain rfl : y = p := by simpa using hj
         exact ⟨B, c', rfl, hc', hy⟩
  | j + 2 => simp at hj

section
variable {P : Program} {ops : Array Oper} {o : Oper} {a : Act} {w0 W : World} {Kc : Act → World → Prop} {Q : Exit → Act → World → Prop} {rest : List Oper}
theorem R_app_step (k : IntKind) (base : Nat) (hgd : o.guard = none) (s x : Operand) (t e : TypeId) (bytes : Nat)
    (ho : o.op = .call { callee := .builtin .append, args := #[s, x], argTypes := #[t, t] })
    (ht : P.underlying t = some (.slice e)) (hinfo : (P.info? e).map (fun i => (i.zero, i.size, i.bytes)) = some (some (.int k 0), 1, bytes)) (hb0 : 0 < bytes)
    (v : Value) (xs ys : List Int) (A : Option Addr) (m c : Nat) (ok : Nat → Prop) (hs : a.eval s = v) (hx : a.eval x = .slice A m c)
    (HO : (Kd.int k).R e W base ok v xs) (HR : (Kd.int k).C W A m ys) (hfresh : ∀ k, W.heap.size ≤ k → ok k)
    (HB : Below base w0 W) (hbase : base ≤ W.heap.size) (hl : (xs.length + m) * bytes ≤ 140737488355328)
    (h : ∀ v1 w1, (Kd.int k).R e w1 base ok v1 (xs ++ ys) → Below base w0 w1 → W.grownBy w1 v.ownBlock → (v1.ownBlock = v.ownBlock ∨ ∃ b, v1.ownBlock = some b ∧ W.heap.size ≤ b) → Kc (a.put o.dst v1) w1) :
    if Region.wanted o (yielded ops a.tmps) = true then Oper.wp P o a W Kc Q else Kc (a.put o.dst undef) W :=
  Kd.R_append_rows_step (Kd.int k) (Rr := fun x cs => cs = [.int k x]) base (by simp [Region.wanted, hgd]) s x t e (.int k 0) bytes ho ht hinfo rfl Nat.zero_lt_one hb0 v xs ys A m c ok (fun _ => False) hs hx HO HR (fun _ _ h => h) (fun _ h => h.elim) hfresh HB hbase hl h
theorem R_app (k : IntKind) (base : Nat) (hgd : o.guard = none) (s x : Operand) (t e : TypeId) (bytes : Nat)
    (ho : o.op = .call { callee := .builtin .append, args := #[s, x], argTypes := #[t, t] })
    (ht : P.underlying t = some (.slice e)) (hinfo : (P.info? e).map (fun i => (i.zero, i.size, i.bytes)) = some (some (.int k 0), 1, bytes)) (hb0 : 0 < bytes)
    (v : Value) (xs ys : List Int) (A : Option Addr) (m c : Nat) (ok : Nat → Prop) (hs : a.eval s = v) (hx : a.eval x = .slice A m c)
    (HO : (Kd.int k).R e W base ok v xs) (HR : (Kd.int k).C W A m ys) (hfresh : ∀ k, W.heap.size ≤ k → ok k)
    (HB : Below base w0 W) (hbase : base ≤ W.heap.size) (hl : (xs.length + m) * bytes ≤ 140737488355328)
    (h : ∀ v1 w1, (Kd.int k).R e w1 base ok v1 (xs ++ ys) → Below base w0 w1 → W.grownBy w1 v.ownBlock → (v1.ownBlock = v.ownBlock ∨ ∃ b, v1.ownBlock = some b ∧ W.heap.size ≤ b) → wpList P ops Q rest (a.put o.dst v1) w1) :
    wpList P ops Q (o :: rest) a W :=
  Kd.R_append_row (Value.int k) (0 : Int) (h1 := fun _ => rfl) (w0 := w0) base hgd s x t e (.int k 0) bytes ho ht hinfo rfl hb0 v xs ys A m c ok hs hx hfresh HO HR HB hbase hl h
end

theorem cut_lo {P : Program} (k kl : IntKind) (t e bytes : Nat) (ht : P.underlying t = some (.slice e)) (hinfo : (P.info? e).map (fun i => (i.zero, i.size, i.bytes)) = some (some (.int k 0), 1, bytes)) (A : Option Addr) (n c j : Nat) (hj : j ≤ n) (hc : n ≤ c) :
    ∃ A' : Option Addr, (∀ W : World, (Instr.slice t (.slice A n c) (some (.int kl (j : Int))) none none).run P W = .ok (.slice A' (n - j) (c - j)) W) ∧
      (∀ (w : World) (xs : List Int), (Kd.int k).C w A n xs → (Kd.int k).C w A' (n - j) (xs.drop j)) := by
  obtain ⟨i0, hi, hzz⟩ := Option.map_eq_some_iff.1 hinfo
  simp only [Prod.mk.injEq] at hzz
  obtain ⟨A', h1, h2⟩ := print_cut_of (P := P) (Value.int k) 0 t e kl ht hi hzz.2.1 A n c j hj
  refine ⟨A', h1, fun w xs h => ?_⟩
  obtain rfl := h.1
  exact Kd.C_of_reads (h2 w xs hc (Kd.reads_of_C h))
theorem cut_hi {P : Program} (k kl : IntKind) (t e bytes : Nat) (ht : P.underlying t = some (.slice e)) (hinfo : (P.info? e).map (fun i => (i.zero, i.size, i.bytes)) = some (some (.int k 0), 1, bytes)) (A : Option Addr) (n c j : Nat) (hj : j ≤ n) (hc : n ≤ c) :
    (∀ W : World, (Instr.slice t (.slice A n c) none (some (.int kl (j : Int))) none).run P W = .ok (.slice A j c) W) ∧
      (∀ (w : World) (xs : List Int), (Kd.int k).C w A n xs → (Kd.int k).C w A j (xs.take j)) := by
  obtain ⟨i0, hi, hzz⟩ := Option.map_eq_some_iff.1 hinfo
  simp only [Prod.mk.injEq] at hzz
  have key := fun xs : List Int => fun hx : xs.length = n => print_take_of (P := P) (Value.int k) 0 t e kl ht hi hzz.2.1 A c xs (j : Int) (by omega) (by omega) (by omega)
  refine ⟨fun W => ?_, fun w xs h => ?_⟩
  · have := (key (List.replicate n 0) (by simp)).1 W
    simp only [Int.toNat_natCast, List.length_take, List.length_replicate, Nat.min_eq_left hj] at this
    exact this
  · obtain rfl := h.1
    have := (key xs rfl).2.1 w (Kd.reads_of_C h)
    simp only [Int.toNat_natCast, List.length_take, Nat.min_eq_left hj] at this
    exact Kd.C_of_reads this

theorem ret_int {k : IntKind} {a b : Int} (h : a = b) : Ending.returned (.int k a) = .returned (.int k b) := by rw [h]
theorem u32_flip {s : Nat} (hs : s < 4294967296) : bits .xor .u32 IntKind.u32.max (s : Int) = ((4294967295 - s : Nat) : Int) := by
  show IntKind.u32.wrap ((BitVec.ofInt 32 (4294967295 : Int) ^^^ BitVec.ofInt 32 (s : Int)).toNat : Int) = _
  have e1 : BitVec.ofInt 32 (4294967295 : Int) = BitVec.allOnes 32 := by decide
  have e2 : BitVec.ofInt 32 (s : Int) = BitVec.ofNat 32 s := by simp
  rw [e1, e2, BitVec.allOnes_xor, BitVec.toNat_not, BitVec.toNat_ofNat, IntKind.wrap_u32']
  have : s % 2 ^ 32 = s := Nat.mod_eq_of_lt (by omega)
  rw [this]; omega
end Go.Proofs.Yticpjidcgaaldaa

namespace Go.Proofs.Yticpjidcgaaldaa
open Go.RowKit Go.Proofs.YticpjidcgaaldaaW.PrintWords Go.Proofs.YticpjidcgaaldaaW.PrintLast Go.Proofs.YticpjidcgaaldaaW.PrintMore
set_option linter.unusedVariables false
set_option linter.unusedSimpArgs false

theorem w64 {n : Int} (h : -9223372036854775808 ≤ n ∧ n ≤ 9223372036854775807) : wrap64 n = n := by unfold wrap64; omega
theorem next64 {i : Nat} (h : i < 9223372036854775807) : wrap64 ((i : Int) + 1) = ((i + 1 : Nat) : Int) := by unfold wrap64; omega
theorem takes {α : Type} {l : List α} {i j : Nat} (h : min i l.length = min j l.length) : l.take i = l.take j := List.take_eq_take_iff.2 h

theorem rdL_getElem {xs : List (List Int)} {j : Nat} (h : j < xs.length) : rd_L5 xs (j : Int) = xs[j] := by
  unfold rd_L5; rw [List.getD_eq_getElem?_getD, Int.toNat_natCast, List.getElem?_eq_getElem h]; rfl
theorem flatten_take_le : ∀ (l : List (List Int)) (i : Nat), (l.take i).flatten.length ≤ l.flatten.length
  | [], i => by simp
  | x :: l, 0 => by simp
  | x :: l, i + 1 => by have := flatten_take_le l i; simp; simp at this; omega
theorem join_l0 (l : List (List Int)) (hl : l.flatten.length < 140737488355328) (hn : l.length ≤ 9223372036854775807) : ∀ (d k i : Nat), i + d = l.length → d < k →
    hoodwinkref01_Join.l0 k (l.take i).flatten l (l.length : Int) (i : Int) = some l.flatten
  | 0, k, i, hi, hk => by
    obtain ⟨k, rfl⟩ : ∃ q, k = q + 1 := ⟨k - 1, by omega⟩
    simp only [hoodwinkref01_Join.l0]
    rw [if_neg (by omega), List.take_of_length_le (by omega)]
  | d + 1, k, i, hi, hk => by
    obtain ⟨k, rfl⟩ : ∃ q, k = q + 1 := ⟨k - 1, by omega⟩
    have hil : i < l.length := by omega
    have ih := join_l0 l hl hn d k (i + 1) (by omega) (by omega)
    have he : (l.take (i + 1)).flatten = (l.take i).flatten ++ l[i] := by rw [take_snoc hil, List.flatten_append]; simp
    have hle := flatten_take_le l (i + 1)
    rw [he, List.length_append] at hle
    simp only [hoodwinkref01_Join.l0]
    rw [if_pos (by omega), if_pos (by omega), if_pos (by omega), rdL_getElem hil, if_pos (by omega), next64 (by omega), ← he, ih]
theorem join_f (l : List (List Int)) (hl : l.flatten.length < 140737488355328) (hn : l.length ≤ 9223372036854775807) : hoodwinkref01_Join.f (l.length + 1) l = some l.flatten := by
  have := join_l0 l hl hn l.length (l.length + 1) 0 (by omega) (by omega)
  simpa [hoodwinkref01_Join.f] using this
theorem join_any (A : Option Addr) (n c : Nat) (l : List (List Int)) (w : World) (hr : (Kd.slice 5 (Kd.int .u8)).C w A n l) (hc : n ≤ c) (hl : l.flatten.length < 140737488355328) :
    Calls Try.prog 21 #[.slice A n c] w fun e w' => ∃ v, e = .returned v ∧ (Kd.int .u8).R 5 w' w.heap.size (fun _ => True) v l.flatten ∧ Below w.heap.size w w' := by
  have hm := hr.2.1
  obtain rfl := hr.1
  exact hoodwinkref01_Join.calls (l.length + 1) A c l _ w hr hc (join_f l hl hm)

end Go.Proofs.Yticpjidcgaaldaa

namespace Go.Proofs.Yticpjidcgaaldaa
open Go.RowKit Go.Proofs.YticpjidcgaaldaaW.PrintWords Go.Proofs.YticpjidcgaaldaaW.PrintLast Go.Proofs.YticpjidcgaaldaaW.PrintMore
set_option linter.unusedVariables false
set_option linter.unusedSimpArgs false

theorem wu64 {n : Int} (h : 0 ≤ n ∧ n ≤ 18446744073709551615) : IntKind.u64.wrap n = n := IntWalk.u64_in n h
def lowN : Nat → Nat → List Int
  | _, 0 => []
  | x, s + 1 => ((x % 256 : Nat) : Int) :: lowN (x / 256) s
theorem lowN_length : ∀ (s x : Nat), (lowN x s).length = s
  | 0, _ => rfl
  | s + 1, x => by show (lowN (x / 256) s).length + 1 = s + 1; rw [lowN_length s]
theorem lowN_bytes : ∀ (s x : Nat), Bytes (lowN x s)
  | 0, _ => Bytes.nil
  | s + 1, x => fun b hb => by
    rcases List.mem_cons.1 hb with rfl | h
    · omega
    · exact lowN_bytes s (x / 256) b h
theorem low_l0 (s : Nat) (hs : s ≤ 1000) : ∀ (d k i x : Nat) (acc : List Int), i + d = s → d < k → x ≤ 18446744073709551615 → acc.length = i →
    hoodwinkref01_Low.l0 k (x : Int) (s : Int) acc (i : Int) = some (acc ++ lowN x d)
  | 0, k, i, x, acc, hi, hk, hx, ha => by
    obtain ⟨k, rfl⟩ : ∃ q, k = q + 1 := ⟨k - 1, by omega⟩
    simp only [hoodwinkref01_Low.l0]
    rw [if_neg (by omega)]; simp [lowN]
  | d + 1, k, i, x, acc, hi, hk, hx, ha => by
    obtain ⟨k, rfl⟩ : ∃ q, k = q + 1 := ⟨k - 1, by omega⟩
    have h1 : Int.tdiv (x : Int) 256 = ((x / 256 : Nat) : Int) := by rw [Int.tdiv_eq_ediv_of_nonneg (by omega)]; rfl
    have h2 : Int.tmod (x : Int) 256 = ((x % 256 : Nat) : Int) := by rw [Int.tmod_eq_emod_of_nonneg (by omega)]; rfl
    have h3 : ((x % 256 : Nat) : Int) % 256 = ((x % 256 : Nat) : Int) := by omega
    have ih := low_l0 s hs d k (i + 1) (x / 256) (acc ++ [((x % 256 : Nat) : Int)]) (by omega) (by omega) (by omega) (by simp [ha])
    simp only [hoodwinkref01_Low.l0]
    rw [if_pos (by omega), if_pos (by omega), h1, h2, h3, wu64 (by omega), next64 (by omega), ih]
    simp [lowN]
theorem low_any (x s : Nat) (w : World) (hx : x ≤ 18446744073709551615) (hs : s ≤ 1000) :
    Calls Try.prog 48 #[.int .u64 x, .int .i64 s] w fun e w' => ∃ v, e = .returned v ∧ (Kd.int .u8).R 5 w' w.heap.size (fun _ => True) v (lowN x s) ∧ Below w.heap.size w w' :=
  hoodwinkref01_Low.calls (s + 1) x s _ w (by
    have := low_l0 s hs s (s + 1) 0 x [] (by omega) (by omega) hx rfl
    simpa [hoodwinkref01_Low.f] using this)

end Go.Proofs.Yticpjidcgaaldaa

namespace Go.Proofs.Yticpjidcgaaldaa
open Go.RowKit Go.Proofs.YticpjidcgaaldaaW.PrintWords Go.Proofs.YticpjidcgaaldaaW.PrintLast Go.Proofs.YticpjidcgaaldaaW.PrintMore

def depOn (o : Oper) (j : Nat) : Bool := o.after.any fun e => Region.binds .any e && e.on == j
def dstOf (ops : Array Oper) (i : Nat) : Option Tmp := (ops[i]?).bind (·.dst)
def look (ops : Array Oper) (a0 : Act) (L : Nat → Bool) (vs : Nat → Value) (s : Nat) : Value :=
  match (List.range ops.size).find? (fun i => L i && dstOf ops i == some s) with
  | some i => vs i
  | none => a0.tmps.getD s undef
def rho (ops : Array Oper) (a0 : Act) (L : Nat → Bool) (vs : Nat → Value) : Operand → Value
  | .tmp s => look ops a0 L vs s
  | .const v => v
  | .global g => .pointer (some ⟨g, 0, none⟩)
  | .func f => .func (.func f) #[] #[]
def boolOf : Value → Option Bool
  | .bool b => some b
  | _ => none
def regionOk (ops : Array Oper) (size : Nat) : Bool :=
  (List.range ops.size).all fun i => match ops[i]? with
    | none => false
    | some o =>
      (match o.dst with | none => true | some d => decide (d < size) && (List.range ops.size).all fun k => k == i || dstOf ops k != some d) &&
      (o.op.operands.all fun x => match x with
        | .tmp s => (List.range ops.size).all fun k => k == i || dstOf ops k != some s || depOn o k || (match ops[k]? with | some o' => depOn o' i | none => false)
        | _ => true) &&
      (match o.guard with | none => true | some (j, _) => depOn o j && (dstOf ops j).isSome) &&
      (o.after.all fun e => !Region.binds .any e || decide (e.on < i)) &&
      (match o.op with | .select .. => false | _ => true)
def runs (P : Program) (o : Oper) (ρ : Operand → Value) (w : World) (R : Value → World → Prop) : Prop :=
  match (execOp ρ o).run P w with
  | .ok (.value v) w' => R v w'
  | .ok .skip w' => R undef w'
  | .ok (.enter f args) w' => Calls P f args w' fun e w'' => ∃ v, e = .returned v ∧ R v w''
  | _ => False
def wants (yv : Nat → Option Bool) (o : Oper) : Bool :=
  match o.guard with
  | none => true
  | some (j, b) => yv j == some b

section
variable {P : Program} {ops : Array Oper} {Q : Exit → Act → World → Prop} {a0 : Act} {C : World → Prop} {Step : World → World → Prop} {V : Nat → World → Value → Prop} {yv : Nat → Option Bool}

theorem runs_wp {o : Oper} {a : Act} {w : World} {K : Act → World → Prop} {ρ : Operand → Value} (he : execOp a.eval o = execOp ρ o) (h : runs P o ρ w fun v w' => K (a.put o.dst v) w') : o.wp P a w K Q := by
  unfold Oper.wp
  rw [he]
  unfold runs at h
  generalize (execOp ρ o).run P w = r at *
  cases r with
  | ok n w' =>
    cases n with
    | value v => exact h
    | skip => exact h
    | enter f args => exact Calls.mono h (fun e w'' ⟨v, he, hk⟩ => by subst he; exact hk)
    | _ => exact h.elim
  | halt x w' => exact h.elim

theorem range_all {n : Nat} {p : Nat → Bool} (h : (List.range n).all p = true) {i : Nat} (hi : i < n) : p i = true := List.all_eq_true.1 h i (List.mem_range.2 hi)

structure Fact (ops : Array Oper) (size i : Nat) (o : Oper) : Prop where
  dst : ∀ d, o.dst = some d → d < size ∧ ∀ k, k < ops.size → k ≠ i → dstOf ops k ≠ some d
  reads : ∀ s, .tmp s ∈ o.op.operands → ∀ k, k < ops.size → k ≠ i → dstOf ops k = some s → depOn o k = true ∨ ∃ o', ops[k]? = some o' ∧ depOn o' i = true
  guard : ∀ j b, o.guard = some (j, b) → depOn o j = true ∧ (dstOf ops j).isSome = true
  back : ∀ j, depOn o j = true → j < i
  sel : ∀ cs b, o.op ≠ .select cs b
theorem fact_of {size i : Nat} {o : Oper} (h : regionOk ops size = true) (ho : ops[i]? = some o) : Fact ops size i o := by
  have hi : i < ops.size := (Array.getElem?_eq_some_iff.1 ho).1
  have h1 := range_all h hi
  simp only [ho, Bool.and_eq_true] at h1
  obtain ⟨⟨⟨⟨h1, h2⟩, h3⟩, h4⟩, h5⟩ := h1
  refine ⟨fun d hd => ?_, fun s hs k hk hne hdk => ?_, fun j b hg => ?_, fun j hj => ?_, fun cs b hc => ?_⟩
  · simp only [hd, Bool.and_eq_true, decide_eq_true_eq] at h1
    refine ⟨h1.1, fun k hk hne => ?_⟩
    have := range_all h1.2 hk
    simpa [hne] using this
  · have hx := (Array.all_eq_true_iff_forall_mem.1 h2) _ hs
    have := range_all hx hk
    simp only [hdk, Bool.or_eq_true, beq_iff_eq, hne, bne_self_eq_false, Bool.false_eq_true, or_false, false_or] at this
    rcases this with h | h
    · exact .inl h
    · right
      cases hok : ops[k]? with
      | none => rw [hok] at h; exact absurd h (by simp)
      | some o' => rw [hok] at h; exact ⟨o', rfl, h⟩
  · simpa [hg] using h3
  · unfold depOn at hj
    rw [Array.any_eq_true'] at hj
    obtain ⟨e, he, hb⟩ := hj
    have := (Array.all_eq_true_iff_forall_mem.1 h4) e he
    simp only [Bool.and_eq_true, beq_iff_eq] at hb
    obtain ⟨hb, rfl⟩ := hb
    simpa [hb] using this
  · simp [hc] at h5

structure Inv (ops : Array Oper) (a0 : Act) (C : World → Prop) (V : Nat → World → Value → Prop) (L : Nat → Bool) (vs : Nat → Value) (a : Act) (w : World) : Prop where
  cls : C w
  defers : a.defers = a0.defers
  size : a.tmps.size = a0.tmps.size
  slot : ∀ s, a.tmps.getD s undef = look ops a0 L vs s
  val : ∀ i, i < ops.size → L i = true → V i w (vs i)
  closed : ∀ i o, ops[i]? = some o → L i = true → ∀ j, depOn o j = true → L j = true

theorem find_unique {n i : Nat} {p : Nat → Bool} (hi : i < n) (hp : p i = true) (hu : ∀ k, k < n → p k = true → k = i) : (List.range n).find? p = some i := by
  cases h : (List.range n).find? p with
  | none => exact absurd hp (by simpa using List.find?_eq_none.1 h i (List.mem_range.2 hi))
  | some k =>
    have hk := List.mem_range.1 (List.mem_of_find?_eq_some h)
    rw [hu k hk (List.find?_some h)]
theorem find_congr {n : Nat} {p q : Nat → Bool} (h : ∀ k, k < n → p k = q k) : (List.range n).find? p = (List.range n).find? q := by
  have key : ∀ l : List Nat, (∀ k ∈ l, k < n) → l.find? p = l.find? q := by
    intro l
    induction l with
    | nil => intro _; rfl
    | cons x l ih =>
      intro hl
      rw [List.find?_cons, List.find?_cons, h x (hl x List.mem_cons_self), ih (fun k hk => hl k (List.mem_cons_of_mem _ hk))]
  exact key _ (fun k hk => List.mem_range.1 hk)

theorem count_lt {p q : Nat → Bool} : ∀ {l : List Nat} {x : Nat}, x ∈ l → p x = true → q x = false → (∀ k, q k = true → p k = true) → (l.filter q).length < (l.filter p).length
  | y :: l, x, hx, hp, hq, hqp => by
    have hle : ∀ m : List Nat, (m.filter q).length ≤ (m.filter p).length := by
      intro m
      induction m with
      | nil => simp
      | cons z m ih =>
        rw [List.filter_cons, List.filter_cons]
        by_cases h : q z = true
        · rw [if_pos h, if_pos (hqp z h)]; simp; exact ih
        · rw [if_neg h]
          split
          · simp; omega
          · exact ih
    rw [List.filter_cons, List.filter_cons]
    rcases List.mem_cons.1 hx with rfl | hx
    · rw [if_neg (by rw [hq]; simp), if_pos hp]
      have := hle l
      simp; omega
    · have ih := count_lt hx hp hq hqp
      by_cases h : q y = true
      · rw [if_pos h, if_pos (hqp y h)]; simp; exact ih
      · rw [if_neg h]
        split
        · simp; omega
        · exact ih
theorem getD_of_lt {l : Array Bool} {i : Nat} (h : i < l.size) (d d' : Bool) : l.getD i d = l.getD i d' := by simp [Array.getD, h]
theorem all_listed {size : Nat} (hok : regionOk ops size = true) {listed : Array Bool} (hs : listed.size = ops.size) (hr : Region.ready .any ops listed = []) : ∀ i, i < ops.size → listed.getD i false = true := by
  intro i
  induction i using Nat.strongRecOn with
  | _ i ih =>
    intro hi
    cases hb : listed.getD i false with
    | true => rfl
    | false =>
      exfalso
      have ho : ops[i]? = some ops[i] := Array.getElem?_eq_getElem hi
      have F := fact_of hok ho
      have hm : i ∈ Region.ready .any ops listed := mem_ready.2 ⟨by rw [getD_of_lt (by omega) true false]; exact hb, _, ho, fun e he hbd => ?_⟩
      · rw [hr] at hm; cases hm
      · have hd : depOn ops[i] e.on = true := by
          unfold depOn
          rw [Array.any_eq_true']
          exact ⟨e, he, by simp [hbd]⟩
        have hlt := F.back _ hd
        exact ih _ hlt (by omega)
theorem look_all {L : Nat → Bool} {vs : Nat → Value} (h : ∀ i, i < ops.size → L i = true) (s : Nat) : look ops a0 L vs s = look ops a0 (fun _ => true) vs s := by
  unfold look
  rw [find_congr (q := fun i => true && dstOf ops i == some s) (fun k hk => by rw [h k hk])]
variable (hok : regionOk ops a0.tmps.size = true)
  (hrefl : ∀ w, Step w w)
  (hstab : ∀ i w w' v, i < ops.size → Step w w' → V i w v → V i w' v)
  (hyv : ∀ (i : Nat) (o : Oper) (j : Nat) (b : Bool), ops[i]? = some o → o.guard = some (j, b) → ∀ w v, V j w v → boolOf v = yv j)
  (hop : ∀ i o, ops[i]? = some o → ∀ (vs : Nat → Value) w, C w → (∀ j, depOn o j = true → V j w (vs j)) →
    if wants yv o = true then runs P o (rho ops a0 (depOn o) vs) w (fun v w' => C w' ∧ Step w w' ∧ V i w' v) else V i w undef)
  (hend : ∀ (vs : Nat → Value) w a, C w → (∀ i, i < ops.size → V i w (vs i)) → a.defers = a0.defers → a.tmps.size = a0.tmps.size → (∀ s, a.tmps.getD s undef = look ops a0 (fun _ => true) vs s) → Q .normal a w)
include hend in
theorem end_ok {listed : Array Bool} {vs : Nat → Value} {a : Act} {w : World} (hall : ∀ i, i < ops.size → listed.getD i false = true) (I : Inv ops a0 C V (fun i => listed.getD i false) vs a w) : Q .normal a w :=
  hend vs w a I.cls (fun i hi => I.val i hi (hall i hi)) I.defers I.size (fun s => by rw [I.slot s]; exact look_all hall s)
include hok hrefl hstab hyv hop hend in
theorem any_ok : ∀ (fuel : Nat) (listed : Array Bool) (vs : Nat → Value) (a : Act) (w : World), listed.size = ops.size → ((List.range ops.size).filter (fun i => !listed.getD i false)).length ≤ fuel →
    Inv ops a0 C V (fun i => listed.getD i false) vs a w → wpAny P .any ops Q fuel listed a w
  | 0, listed, vs, a, w, hs, hc, I => by
    have hall : ∀ i, i < ops.size → listed.getD i false = true := by
      intro i hi
      cases hb : listed.getD i false with
      | true => rfl
      | false =>
        exfalso
        have hm : i ∈ (List.range ops.size).filter (fun i => !listed.getD i false) := List.mem_filter.2 ⟨List.mem_range.2 hi, by simp [hb]⟩
        have := List.length_pos_of_mem hm
        omega
    refine ⟨?_, end_ok hend hall I⟩
    rw [List.eq_nil_iff_forall_not_mem]
    intro j hj
    obtain ⟨h1, o, ho, _⟩ := mem_ready.1 hj
    have hjn : j < ops.size := (Array.getElem?_eq_some_iff.1 ho).1
    rw [getD_of_lt (by omega) true false, hall j hjn] at h1
    cases h1
  | fuel + 1, listed, vs, a, w, hs, hc, I => by
    refine ⟨fun hr => end_ok hend (all_listed hok hs hr) I, fun i hi => ?_⟩
    obtain ⟨h1, o, ho, hdeps⟩ := mem_ready.1 hi
    have hin : i < ops.size := (Array.getElem?_eq_some_iff.1 ho).1
    have hun : listed.getD i false = false := by rw [getD_of_lt (by omega) false true]; exact h1
    have F := fact_of hok ho
    have hdep : ∀ j, depOn o j = true → listed.getD j false = true := by
      intro j hj
      unfold depOn at hj
      rw [Array.any_eq_true'] at hj
      obtain ⟨e, he, hb⟩ := hj
      simp only [Bool.and_eq_true, beq_iff_eq] at hb
      obtain ⟨hb, rfl⟩ := hb
      exact hdeps e he hb
    have hV : ∀ j, depOn o j = true → V j w (vs j) := fun j hj => I.val j (by have := F.back j hj; omega) (hdep j hj)
    -- what it reads
    have hlk : ∀ s, .tmp s ∈ o.op.operands → look ops a0 (fun i => listed.getD i false) vs s = look ops a0 (depOn o) vs s := by
      intro s hso
      unfold look
      rw [find_congr (q := fun k => depOn o k && dstOf ops k == some s)]
      intro k hk
      show (listed.getD k false && dstOf ops k == some s) = (depOn o k && dstOf ops k == some s)
      by_cases hd : dstOf ops k = some s
      · have e1 : listed.getD k false = depOn o k := by
          by_cases hki : k = i
          · subst hki
            rw [hun]
            cases hb : depOn o k with
            | false => rfl
            | true => exact absurd (F.back k hb) (by omega)
          · cases hb : depOn o k with
            | true => exact hdep k hb
            | false =>
              rcases F.reads s hso k hk hki hd with h | ⟨o', ho', h⟩
              · rw [hb] at h; cases h
              · cases hl : listed.getD k false with
                | false => rfl
                | true =>
                  have := I.closed k o' ho' hl i h
                  rw [hun] at this; cases this
        rw [e1]
      · have : (dstOf ops k == some s) = false := by simpa using hd
        rw [this, Bool.and_false, Bool.and_false]
    have hev : execOp a.eval o = execOp (rho ops a0 (depOn o) vs) o := by
      refine execOp_congr o F.sel fun x hx => ?_
      cases x with
      | tmp s =>
        show a.tmps.getD s undef = look ops a0 (depOn o) vs s
        rw [I.slot s]; exact hlk s hx
      | const v => rfl
      | global g => rfl
      | func f => rfl
    -- is it wanted
    have hw : Region.wanted o (yielded ops a.tmps) = wants yv o := by
      unfold Region.wanted wants
      cases hg : o.guard with
      | none => rfl
      | some jb =>
        obtain ⟨j, b⟩ := jb
        obtain ⟨hdj, hds⟩ := F.guard j b hg
        have hjn : j < ops.size := by have := F.back j hdj; omega
        obtain ⟨d, hd⟩ := Option.isSome_iff_exists.1 hds
        have Fj := fact_of hok (Array.getElem?_eq_getElem hjn)
        have hdj' : ops[j].dst = some d := by
          have := hd
          unfold dstOf at this
          rw [Array.getElem?_eq_getElem hjn] at this
          exact this
        have hsl : a.tmps.getD d undef = vs j := by
          rw [I.slot d]
          unfold look
          rw [find_unique (i := j) hjn (by simp only [hdep j hdj, hd, beq_self_eq_true, Bool.and_self]) (fun k hk hp => by
            by_cases e : k = j
            · exact e
            · simp only [Bool.and_eq_true, beq_iff_eq] at hp
              exact absurd hp.2 ((Fj.dst d hdj').2 k hk e))]
        have hdl : d < a.tmps.size := by rw [I.size]; exact (Fj.dst d hdj').1
        have hy : yielded ops a.tmps j = boolOf (vs j) := by
          unfold yielded
          have : (ops[j]?).bind (·.dst) = some d := hd
          rw [this]
          simp only [Option.bind_some]
          have e2 : a.tmps[d]? = some (vs j) := by
            rw [Array.getElem?_eq_getElem hdl]
            have : a.tmps.getD d undef = a.tmps[d] := by simp [Array.getD, hdl]
            rw [← this, hsl]
          rw [e2]
          cases vs j <;> rfl
        show (yielded ops a.tmps j == some b) = (yv j == some b)
        rw [hy, hyv i o j b ho hg w (vs j) (hV j hdj)]
    have hI : ∀ v w', C w' → Step w w' → V i w' v → Inv ops a0 C V (fun k => (listed.setIfInBounds i true).getD k false) (fun k => if k = i then v else vs k) (a.put o.dst v) w' := by
      intro v w' hC hS hVv
      have hgi : (listed.setIfInBounds i true).getD i false = true := by simp [Array.getD, hs, hin]
      have hgo : ∀ k, k ≠ i → (listed.setIfInBounds i true).getD k false = listed.getD k false := fun k hk => getD_set_ne false (Ne.symm hk)
      refine ⟨hC, by rw [← I.defers]; cases o.dst <;> rfl, by rw [← I.size]; cases o.dst <;> simp [Act.put], fun s => ?_, fun k hk hl => ?_, fun k o' hk hl j hj => ?_⟩
      · by_cases hd : o.dst = some s
        · have Fd := F.dst s hd
          have e1 : (a.put o.dst v).tmps.getD s undef = v := by
            rw [hd]; simp [Act.put, Array.getD, I.size, Fd.1]
          rw [e1]
          unfold look
          rw [find_unique (i := i) hin (by simp only [hgi, dstOf, ho, Option.bind_some, hd, beq_self_eq_true, Bool.and_self]) (fun k hk hp => by
            by_cases e : k = i
            · exact e
            · simp only [Bool.and_eq_true, beq_iff_eq] at hp
              exact absurd hp.2 (Fd.2 k hk e))]
          simp
        · have e1 : (a.put o.dst v).tmps.getD s undef = a.tmps.getD s undef := by
            cases hdo : o.dst with
            | none => rfl
            | some d =>
              have hne : d ≠ s := fun e => hd (by rw [hdo, e])
              have := Act.eval_put (a := a) (dst := some d) (v := v) (x := .tmp s) (fun d' hd' => by cases hd'; intro e; cases e; exact hne rfl)
              exact this
          rw [e1, I.slot s]
          unfold look
          rw [find_congr (p := fun k => (listed.setIfInBounds i true).getD k false && dstOf ops k == some s) (q := fun k => listed.getD k false && dstOf ops k == some s) (fun k hk => by
            by_cases e : k = i
            · subst e
              have : (dstOf ops k == some s) = false := by simp only [dstOf, ho, Option.bind_some, beq_eq_false_iff_ne]; exact hd
              rw [this, Bool.and_false, Bool.and_false]
            · rw [hgo k e])]
          cases hf : (List.range ops.size).find? (fun k => listed.getD k false && dstOf ops k == some s) with
          | none => rfl
          | some k =>
            have hp := List.find?_some hf
            simp only [Bool.and_eq_true] at hp
            have : k ≠ i := fun e => by rw [e, hun] at hp; exact absurd hp.1 (by simp)
            simp [this]
      · by_cases e : k = i
        · subst e; simpa using hVv
        · simp only [e, if_false]
          exact hstab k w w' _ hk hS (I.val k hk (by rw [← hgo k e]; exact hl))
      · by_cases e : k = i
        · subst e
          have : o' = o := by rw [ho] at hk; exact (Option.some.inj hk).symm
          subst this
          have hlj := hdep j hj
          by_cases ej : j = k
          · rw [ej]; exact hgi
          · rw [hgo j ej]; exact hlj
        · have h2 := I.closed k o' hk (by rw [← hgo k e]; exact hl) j hj
          by_cases ej : j = i
          · rw [ej]; exact hgi
          · rw [hgo j ej]; exact h2
    have hc' : ((List.range ops.size).filter (fun k => !(listed.setIfInBounds i true).getD k false)).length ≤ fuel := by
      have := count_lt (l := List.range ops.size) (x := i) (p := fun k => !listed.getD k false) (q := fun k => !(listed.setIfInBounds i true).getD k false) (List.mem_range.2 hin) (by simp [hun]) (by simp [Array.getD, hs, hin]) (fun k hk => by
        by_cases e : k = i
        · subst e; simp [hun]
        · rw [getD_set_ne false (Ne.symm e)] at hk; exact hk)
      omega
    have hgo := hop i o ho vs w I.cls hV
    unfold wpOp
    simp only [ho]
    rw [hw]
    by_cases hwt : wants yv o = true
    · rw [if_pos hwt] at hgo ⊢
      refine .inl (runs_wp hev ?_)
      have mono : ∀ {R R' : Value → World → Prop}, (∀ v w', R v w' → R' v w') → runs P o (rho ops a0 (depOn o) vs) w R → runs P o (rho ops a0 (depOn o) vs) w R' := by
        intro R R' hR h
        unfold runs at *
        split at h <;> first | exact hR _ _ h | exact Calls.mono h (fun e w'' ⟨v, he, hk⟩ => ⟨v, he, hR _ _ hk⟩) | exact h.elim
      exact mono (fun v w' ⟨h1, h2, h3⟩ => any_ok fuel _ _ _ _ (by simp [hs]) hc' (hI v w' h1 h2 h3)) hgo
    · rw [if_neg hwt] at hgo ⊢
      exact any_ok fuel _ _ _ _ (by simp [hs]) hc' (hI undef w I.cls (hrefl w) hgo)

def putAll (vs : Nat → Value) : List (Nat × Option Tmp) → Act → Act
  | [], a => a
  | (i, d) :: l, a => putAll vs l (a.put d (vs i))
theorem put_defers (a : Act) (d : Option Tmp) (v : Value) : (a.put d v).defers = a.defers := by cases d <;> rfl
theorem put_size (a : Act) (d : Option Tmp) (v : Value) : (a.put d v).tmps.size = a.tmps.size := by cases d <;> simp [Act.put]
theorem putAll_defers (vs : Nat → Value) : ∀ (l : List (Nat × Option Tmp)) (a : Act), (putAll vs l a).defers = a.defers
  | [], _ => rfl
  | (i, d) :: l, a => by show (putAll vs l _).defers = _; rw [putAll_defers vs l, put_defers]
theorem putAll_size (vs : Nat → Value) : ∀ (l : List (Nat × Option Tmp)) (a : Act), (putAll vs l a).tmps.size = a.tmps.size
  | [], _ => rfl
  | (i, d) :: l, a => by show (putAll vs l _).tmps.size = _; rw [putAll_size vs l, put_size]
theorem put_getD (a : Act) (d : Option Tmp) (v : Value) (s : Nat) (h : d ≠ some s) : (a.put d v).tmps.getD s undef = a.tmps.getD s undef :=
  Act.eval_put (a := a) (dst := d) (v := v) (x := .tmp s) (fun d' hd' e => by subst hd'; cases e; exact h rfl)
theorem put_same (a : Act) (v : Value) (s : Nat) (h : s < a.tmps.size) : (a.put (some s) v).tmps.getD s undef = v := by simp [Act.put, Array.getD, h]
theorem putAll_getD (vs : Nat → Value) (s : Nat) : ∀ (l : List Nat) (a : Act), l.Nodup → (∀ i ∈ l, ∀ k ∈ l, dstOf ops i = some s → dstOf ops k = some s → k = i) → s < a.tmps.size →
    (putAll vs (l.map fun i => (i, dstOf ops i)) a).tmps.getD s undef = match l.find? (fun i => dstOf ops i == some s) with | some i => vs i | none => a.tmps.getD s undef
  | [], _, _, _, _ => rfl
  | i :: l, a, hn, hu, hs => by
    have hn' := List.nodup_cons.1 hn
    have hu' : ∀ j ∈ l, ∀ k ∈ l, dstOf ops j = some s → dstOf ops k = some s → k = j := fun j hj k hk => hu j (List.mem_cons_of_mem _ hj) k (List.mem_cons_of_mem _ hk)
    show (putAll vs (l.map fun i => (i, dstOf ops i)) (a.put (dstOf ops i) (vs i))).tmps.getD s undef = _
    rw [putAll_getD vs s l _ hn'.2 hu' (by rw [put_size]; exact hs), List.find?_cons]
    by_cases hd : dstOf ops i = some s
    · have hb : (dstOf ops i == some s) = true := by simpa using hd
      rw [hb]
      have : l.find? (fun i => dstOf ops i == some s) = none := by
        rw [List.find?_eq_none]
        intro k hk hc
        have := hu i List.mem_cons_self k (List.mem_cons_of_mem _ hk) hd (by simpa using hc)
        subst this
        exact hn'.1 hk
      rw [this, hd]
      exact put_same a (vs i) s hs
    · have hb : (dstOf ops i == some s) = false := by simpa using hd
      rw [hb]
      cases l.find? (fun i => dstOf ops i == some s) with
      | some k => rfl
      | none => exact put_getD a _ _ s hd
theorem frame_is {a : Act} {vs : Nat → Value} {D : List (Nat × Option Tmp)} (hok : regionOk ops a0.tmps.size = true) (hD : (List.range ops.size).map (fun i => (i, dstOf ops i)) = D)
    (hd : a.defers = a0.defers) (hs : a.tmps.size = a0.tmps.size) (hl : ∀ s, a.tmps.getD s undef = look ops a0 (fun _ => true) vs s) : a = putAll vs D a0 := by
  subst hD
  have e1 : a.tmps = (putAll vs ((List.range ops.size).map fun i => (i, dstOf ops i)) a0).tmps := by
    apply Array.ext
    · rw [putAll_size, hs]
    · intro s h1 h2
      have g1 : a.tmps.getD s undef = a.tmps[s] := by simp [Array.getD, h1]
      have g2 : (putAll vs ((List.range ops.size).map fun i => (i, dstOf ops i)) a0).tmps.getD s undef = (putAll vs ((List.range ops.size).map fun i => (i, dstOf ops i)) a0).tmps[s] := by simp [Array.getD, h2]
      rw [← g1, ← g2, hl s, putAll_getD vs s (List.range ops.size) a0 List.nodup_range (fun i hi k hk h3 h4 => by
        have hi := List.mem_range.1 hi
        have hk := List.mem_range.1 hk
        have F := fact_of hok (Array.getElem?_eq_getElem hi)
        by_cases e : k = i
        · exact e
        · have hdi : ops[i].dst = some s := by
            have := h3
            unfold dstOf at this
            rw [Array.getElem?_eq_getElem hi] at this
            exact this
          exact absurd h4 ((F.dst s hdi).2 k hk e)) (by omega)]
      unfold look
      simp only [Bool.true_and]
  cases a
  have e2 := putAll_defers vs ((List.range ops.size).map fun i => (i, dstOf ops i)) a0
  generalize putAll vs ((List.range ops.size).map fun i => (i, dstOf ops i)) a0 = b at *
  cases b
  simp only at e1 e2 hd
  subst e1
  rw [hd, ← e2]

theorem region_all {id : Nat} {w : World} (V : Nat → World → Value → Prop) (yv : Nat → Option Bool) (C : World → Prop) (Step : World → World → Prop) (D : List (Nat × Option Tmp)) (hm : P.follows .mixedOrders = true)
    (hok : regionOk ops a0.tmps.size = true) (hD : (List.range ops.size).map (fun i => (i, dstOf ops i)) = D)
    (hrefl : ∀ w, Step w w) (hstab : ∀ i w w' v, i < ops.size → Step w w' → V i w v → V i w' v)
    (hyv : ∀ (i : Nat) (o : Oper) (j : Nat) (b : Bool), ops[i]? = some o → o.guard = some (j, b) → ∀ w v, V j w v → boolOf v = yv j)
    (h0 : C w.drew)
    (hop : ∀ i o, ops[i]? = some o → ∀ (vs : Nat → Value) w, C w → (∀ j, depOn o j = true → V j w (vs j)) →
      if wants yv o = true then runs P o (rho ops a0 (depOn o) vs) w (fun v w' => C w' ∧ Step w w' ∧ V i w' v) else V i w undef)
    (hend : ∀ (vs : Nat → Value) w, C w → (∀ i, i < ops.size → V i w (vs i)) → Q .normal (putAll vs D a0) w) : (Code.region id ops true).wp P Q a0 w :=
  wp_region_any hm (any_ok hok hrefl hstab hyv hop (fun vs w a hC hV h1 h2 h3 => by rw [frame_is hok hD h1 h2 h3]; exact hend vs w hC hV) ops.size (Array.replicate ops.size false) (fun _ => undef) a0 _ (by simp)
    (Nat.le_trans (List.length_filter_le _ _) (by simp)) ⟨h0, rfl, rfl, fun s => by
      unfold look
      have : (List.range ops.size).find? (fun i => (Array.replicate ops.size false).getD i false && dstOf ops i == some s) = none := by
        rw [List.find?_eq_none]
        intro k hk hc
        have hk := List.mem_range.1 hk
        simp [Array.getD, hk] at hc
      rw [this], fun i hi hl => by simp [Array.getD, hi] at hl, fun i o ho hl => by
        have hi : i < ops.size := (Array.getElem?_eq_some_iff.1 ho).1
        simp [Array.getD, hi] at hl⟩)
end

theorem runs_val {P : Program} {o : Oper} {ρ : Operand → Value} {w w' : World} {R : Value → World → Prop} {v : Value} (h : (execOp ρ o).run P w = .ok (.value v) w') (hR : R v w') : runs P o ρ w R := by
  unfold runs; rw [h]; exact hR
theorem runs_skip {P : Program} {o : Oper} {ρ : Operand → Value} {w w' : World} {R : Value → World → Prop} (h : (execOp ρ o).run P w = .ok .skip w') (hR : R undef w') : runs P o ρ w R := by
  unfold runs; rw [h]; exact hR
theorem runs_call {P : Program} {o : Oper} {ρ : Operand → Value} {w w' : World} {R : Value → World → Prop} {f : FuncId} {args : Array Value} (h : (execOp ρ o).run P w = .ok (.enter f args) w') (hR : Calls P f args w' fun e w'' => ∃ v, e = .returned v ∧ R v w'') : runs P o ρ w R := by
  unfold runs; rw [h]; exact hR
theorem runs_load {P : Program} {o : Oper} {ρ : Operand → Value} {w : World} {R : Value → World → Prop} (ty : TypeId) (x : Operand) (ho : o.op = .load ty x)
    (g : Nat) (hx : ρ x = .pointer (some ⟨g, 0, none⟩)) (t : TypeId) (cs : Array Value) (fr : Nat × Nat) (d : TypeDesc) (hg : w.heap[g]? = some (.cells cs t fr))
    (hu : P.underlying ty = some d) (hd : (match d with | .struct _ | .array _ _ => true | _ => false) = true) (hi : (P.info? ty).map (·.size) = some cs.size) (hR : R (.agg cs) w) : runs P o ρ w R := by
  unfold runs execOp
  simp only [ho, hx, Instr.loadAt, Instr.sureAddr, Sem.run_bind, Sem.run_pure, Result.andThen_ok, run_loadVar_row w g t ty cs fr d hg hu hd hi]
  exact hR

def Hop (P : Program) (ops : Array Oper) (a0 : Act) (yv : Nat → Option Bool) (W : World) (V : Nat → World → Value → Prop) (i : Nat) (o : Oper) : Prop :=
  ∀ (vs : Nat → Value) (w : World), Below W.heap.size W w → (∀ j, depOn o j = true → V j w (vs j)) →
    if wants yv o = true then runs P o (rho ops a0 (depOn o) vs) w (fun v w' => Below w.heap.size w w' ∧ V i w' v) else V i w undef
def HopAll (P : Program) (ops : Array Oper) (a0 : Act) (yv : Nat → Option Bool) (W : World) (V : Nat → World → Value → Prop) : Nat → List Oper → Prop
  | _, [] => True
  | i, o :: l => Hop P ops a0 yv W V i o ∧ HopAll P ops a0 yv W V (i + 1) l
theorem HopAll.at_ {P : Program} {ops : Array Oper} {a0 : Act} {yv : Nat → Option Bool} {W : World} {V : Nat → World → Value → Prop} (l : List Oper) : ∀ (k i : Nat) (o : Oper), HopAll P ops a0 yv W V k l → l[i]? = some o → Hop P ops a0 yv W V (k + i) o := by
  induction l with
  | nil => intro k i o _ ho; simp at ho
  | cons o' l ih =>
    intro k i o h ho
    cases i with
    | zero =>
      have e : o' = o := by simpa using ho
      subst e
      exact h.1
    | succ i =>
      have h2 := ih (k + 1) i o h.2 (by simpa using ho)
      rw [show k + (i + 1) = k + 1 + i by omega]
      exact h2
def StabAll : List (World → Value → Prop) → Prop
  | [] => True
  | p :: l => (∀ (w w' : World) v, Below w.heap.size w w' → p w v → p w' v) ∧ StabAll l
theorem StabAll.at_ (l : List (World → Value → Prop)) : ∀ (i : Nat), StabAll l → ∀ (w w' : World) v, Below w.heap.size w w' → (l.getD i fun _ _ => True) w v → (l.getD i fun _ _ => True) w' v := by
  induction l with
  | nil => intro i _ w w' v _ h; simp
  | cons p l ih =>
    intro i hs w w' v hb h
    cases i with
    | zero => exact hs.1 w w' v hb h
    | succ i => exact ih i hs.2 w w' v hb h

theorem region_grown {P : Program} {ops : Array Oper} {Q : Exit → Act → World → Prop} {a0 : Act} {id : Nat} {W : World} (Vl : List (World → Value → Prop)) (yv : Nat → Option Bool) (D : List (Nat × Option Tmp)) (G : List Nat)
    (hm : P.follows .mixedOrders = true) (hok : regionOk ops a0.tmps.size = true) (hD : (List.range ops.size).map (fun i => (i, dstOf ops i)) = D)
    (hG : (List.range ops.size).all (fun i => match (ops[i]?).bind (·.guard) with | some (j, _) => G.contains j | none => true) = true)
    (hyv : ∀ j, j ∈ G → ∀ w v, (Vl.getD j fun _ _ => True) w v → boolOf v = yv j)
    (hstab : StabAll Vl)
    (hop : HopAll P ops a0 yv W (fun i => Vl.getD i fun _ _ => True) 0 ops.toList)
    (hend : ∀ (vs : Nat → Value) w, Below W.heap.size W w → (∀ i, i < ops.size → (Vl.getD i fun _ _ => True) w (vs i)) → Q .normal (putAll vs D a0) w) : (Code.region id ops true).wp P Q a0 W :=
  region_all (fun i => Vl.getD i fun _ _ => True) yv (fun w => Below W.heap.size W w) (fun w w' => Below w.heap.size w w') D hm hok hD (fun w => Below.refl _ _)
    (fun i w w' v _ hb h => StabAll.at_ _ i hstab w w' v hb h)
    (fun i o j b ho hg w v hv => by
      have hi : i < ops.size := (Array.getElem?_eq_some_iff.1 ho).1
      have := range_all hG hi
      simp only [ho, Option.bind_some, hg] at this
      exact hyv j (by simpa using this) w v hv)
    (below_drew1 (Below.refl _ _))
    (fun i o ho vs w hC hV => by
      have h := HopAll.at_ _ 0 i o hop (by simpa using ho) vs w hC hV
      rw [Nat.zero_add] at h
      by_cases hw : wants yv o = true
      · rw [if_pos hw] at h ⊢
        have mono : ∀ {R R' : Value → World → Prop}, (∀ v w', R v w' → R' v w') → runs P o (rho ops a0 (depOn o) vs) w R → runs P o (rho ops a0 (depOn o) vs) w R' := by
          intro R R' hR h
          unfold runs at *
          split at h <;> first | exact hR _ _ h | exact Calls.mono h (fun e w'' ⟨v, he, hk⟩ => ⟨v, he, hR _ _ hk⟩) | exact h.elim
        exact mono (fun v w' ⟨h1, h2⟩ => ⟨below_step hC h1, h1, h2⟩) h
      · rw [if_neg hw] at h ⊢; exact h)
    hend
end Go.Proofs.Yticpjidcgaaldaa

namespace Go.Proofs.Yticpjidcgaaldaa
open Go.RowKit Go.Proofs.YticpjidcgaaldaaW.PrintWords Go.Proofs.YticpjidcgaaldaaW.PrintLast Go.Proofs.YticpjidcgaaldaaW.PrintMore
set_option linter.unusedVariables false
set_option linter.unusedSimpArgs false

end Go.Proofs.Yticpjidcgaaldaa

namespace Go.Proofs.Yticpjidcgaaldaa
open Go.RowKit Go.Proofs.YticpjidcgaaldaaW.PrintWords Go.Proofs.YticpjidcgaaldaaW.PrintLast Go.Proofs.YticpjidcgaaldaaW.PrintMore
attribute [local go_sem] max2_int min2_int max_two min_two max_three min_three max_four min_four   -- for this text's walks alone
set_option linter.unusedVariables false
set_option linter.unusedSimpArgs false

def bytes_Equal.f (l0 : List Int) (l1 : List Int) : Option (Bool) := some ((strOfNums l0).toList == (strOfNums l1).toList)
set_option maxHeartbeats 8000000 in
set_option maxRecDepth 100000 in
theorem bytes_Equal.calls (A0 : Option Addr) (c0 : Nat) (l0 : List Int) (A1 : Option Addr) (c1 : Nat) (l1 : List Int) (r : Bool) (w : World) (hr0 : Kd.C (Kd.int .u8) w A0 l0.length l0) (hc0 : l0.length ≤ c0) (hr1 : Kd.C (Kd.int .u8) w A1 l1.length l1) (hc1 : l1.length ≤ c1) (h : bytes_Equal.f l0 l1 = some r) :
    Calls Try.prog 66 #[.slice A0 l0.length c0, .slice A1 l1.length c1] w fun e w' => e = .returned (.bool r) ∧ Drawn0 w w' := by
  have HR0 := Aside0.mk hr0
  have HC0 := Aside0.mk hc0
  clear hr0 hc0
  have HR1 := Aside0.mk hr1
  have HC1 := Aside0.mk hc1
  clear hr1 hc1
  have H : (some ((strOfNums l0).toList == (strOfNums l1).toList)) = some r := h
  clear h
  obtain rfl := Option.some.inj H
  have hcv3 := Kd.C_string (P := Try.prog) (A := A0) (c := c0) Try.underlying23 Try.underlying5 Try.underlying9 HR0.out
  have hcv4 := Kd.C_string (P := Try.prog) (A := A1) (c := c1) Try.underlying23 Try.underlying5 Try.underlying9 HR1.out
  go_enter Try.func66, Try.ntmps66
  go_wp2
  go_ret
  exact ⟨by first | rfl | (simp; done) | (simp [*]; done), by repeat (first | exact Drawn0.refl _ | apply Drawn0.step)⟩

def hoodwinkref01_Cut.l0 : Nat → Int → List Int → List Int → Int → Int → Option (List Int)
  | 0, _, _, _, _, _ => none
  | k + 1, x1, x5, x8, x9, x10 => if x10 < x9 then (if 0 ≤ x10 then (if x10 < (x8.length : Int) then (if x10 < x1 then (if x5.length < 140737488355328 then (hoodwinkref01_Cut.l0 k x1 (x5 ++ [rd x8 x10]) x8 x9 (wrap64 (x10 + 1))) else (none)) else (hoodwinkref01_Cut.l0 k x1 x5 x8 x9 (wrap64 (x10 + 1)))) else (none)) else (none)) else (some x5)
def hoodwinkref01_Cut.f (k : Nat) (l0 : List Int) (a1 : Int) : Option (List Int) := hoodwinkref01_Cut.l0 k a1 ([] : List Int) l0 (l0.length : Int) 0
set_option maxHeartbeats 8000000 in
set_option maxRecDepth 100000 in
theorem hoodwinkref01_Cut.calls (k : Nat) (A0 : Option Addr) (c0 : Nat) (l0 : List Int) (a1 : Int) (r : List Int) (w : World) (hr0 : Kd.C (Kd.int .u8) w A0 l0.length l0) (hc0 : l0.length ≤ c0) (h : hoodwinkref01_Cut.f k l0 a1 = some r) :
    Calls Try.prog 12 #[.slice A0 l0.length c0, .int .i64 a1] w fun e w' => ∃ v0_ : Value, e = .returned (v0_) ∧ Kd.R (Kd.int .u8) 5 w' w.heap.size (fun _ => True) v0_ r ∧ Below w.heap.size w w' := by
  have HR0 := Aside0.mk hr0
  have HC0 := Aside0.mk hc0
  clear hr0 hc0
  have HB := Aside0.mk (Below.refl w.heap.size w)
  have H : (hoodwinkref01_Cut.l0 k a1 ([] : List Int) l0 (l0.length : Int) 0) = some r := h
  clear h
  have H' := Aside0.mk H
  clear H
  go_enter Try.func12, Try.ntmps12
  go_wp2
  go_loopg [5, 10] k (fun kq v5 v10 w' => ∃ (x5_1 : List Int) (x10_1 : Int), v10 = .int .i64 x10_1 ∧ Aside0 (hoodwinkref01_Cut.l0 kq a1 x5_1 l0 (l0.length : Int) x10_1 = some r) ∧ Aside0 (kq ≤ k) ∧ Aside0 (Kd.R (Kd.int .u8) 5 w' w.heap.size (fun _ => True) v5 x5_1) ∧ Aside0 (Below w.heap.size w w'))
  case atStart => exact ⟨(([] : List Int)), (0), (by first | rfl | (simp; done) | (simp [*]; done)), H', ⟨Nat.le_refl _⟩, ⟨by first | exact Kd.R_nil _ _ _ _ _ | exact Kd.N_nil _ _ _ _ _ | exact Kd.V_nil _ _ _ _ _ | exact Kd.Q_nil _ _ _ _ _ | exact Kd.S_nil _ _ _ _ _⟩, ⟨by repeat (first | (with_reducible first | exact HB.out | apply below_alloc | apply pw_below_drewN | apply below_drew1) | exact HB.out)⟩⟩
  case round =>
    clear H'
    try clear c1
    try clear p2
    obtain ⟨x5_1, x10_1, rfl, HA, HK1, HO_5, HB⟩ := hrel
    cases gk with
    | zero => exact absurd HA.out (by simp [hoodwinkref01_Cut.l0])
    | succ k1 =>
      have H := HA.out
      clear HA
      simp only [hoodwinkref01_Cut.l0] at H
      by_cases c3 : x10_1 < (l0.length : Int)
      · rw [if_pos c3] at H
        have c3b0 : decide (x10_1 < (l0.length : Int)) = true := decide_eq_true c3
        clear c3
        by_cases c4 : 0 ≤ x10_1
        · rw [if_pos c4] at H
          have c4b0 : decide (0 ≤ x10_1) = true := decide_eq_true c4
          clear c4
          by_cases c5 : x10_1 < (l0.length : Int)
          · rw [if_pos c5] at H
            have c5b0 : decide (x10_1 < (l0.length : Int)) = true := decide_eq_true c5
            clear c5
            by_cases c6 : x10_1 < a1
            · rw [if_pos c6] at H
              have c6b0 : decide (x10_1 < a1) = true := decide_eq_true c6
              clear c6
              by_cases c7 : x5_1.length < 140737488355328
              · rw [if_pos c7] at H
                have LMc7 := Aside0.mk c7
                clear c7
                obtain ⟨y123, hy123⟩ : ∃ y_ : List Int, y_ = (x5_1 ++ [rd l0 x10_1]) := ⟨_, rfl⟩
                replace H : (hoodwinkref01_Cut.l0 k1 a1 y123 l0 (l0.length : Int) (wrap64 (x10_1 + 1))) = some r := by first | (rw [hy123]; with_reducible exact H) | (have H2_ := (Option.bind_some _ _).symm.trans H; rw [hy123]; with_reducible exact H2_) | (have H2_ := (Option.bind_some _ _).symm.trans H; with_reducible exact H2_) | with_reducible exact H | (rw [hy123]; exact H) | exact H
                have Ny123 := Aside0.mk hy123
                clear hy123
                have H' := Aside0.mk H
                clear H
                have p122 : 0 ≤ (x10_1 : Int) := of_decide_eq_true (by first | (with_reducible assumption) | assumption)
                have q122 : x10_1 < (l0.length : Int) := of_decide_eq_true (by first | (with_reducible assumption) | assumption)
                obtain ⟨ad122, e122, hx122_0⟩ := Kd.at_int HR0.out x10_1 p122 q122
                cases e122
                replace hx122_0 := (HB.out.cell (World.block_lt_of_cell? w _ hx122_0)).trans hx122_0
                replace p122 := eq_true p122
                replace q122 := eq_true q122
                go_wp2_with (first | ((with_reducible refine gate_builtin (b := .append) (xs := #[.tmp 18, .tmp 20]) rfl ?_); at_builtin; refine Kd.R_append (Kd.int .u8) (w0 := w) w.heap.size rfl (.tmp 18) (.tmp 20) 23 5 (.int .u8 0) 1 rfl Try.underlying23 info5 rfl (by decide) (by omega) u5 x5_1 (rd l0 x10_1) [.int .u8 (rd l0 x10_1)] (fun _ => True) (fun _ => False) rfl rfl ?aP (fun _ hk => hk.elim) ?aF ?aO ?aB ?aS ?aL ?_; (case aP => exact rfl); (case aB => exact (by repeat (first | (with_reducible first | exact HB.out | apply below_alloc | apply pw_below_drewN | apply below_drew1) | exact HB.out))); (case aF => exact (fun _ _ => trivial)); (case aO => exact (by (with_reducible repeat (first | apply Kd.R_alloc | apply Kd.R_drewN | apply Kd.R_drew)); exact HO_5.out)); (case aS => exact (below_size (by repeat (first | (with_reducible first | exact HB.out | apply below_alloc | apply pw_below_drewN | apply below_drew1) | exact HB.out)))); (case aL => have := LMc7.out; omega); intro v124 w8 ho hb hg hat; rw [← Ny123.out] at ho; have n0_ := Aside0.mk (hb); have n1_ := Aside0.mk (ho); clear HB; clear HO_5; have HB := n0_; have HO125 := n1_; clear n0_ n1_; clear ho hb hg hat))
                go_roundg k1
                case measure => have := HK1.out; omega
                case rel => exact ⟨(y123), (wrap64 (x10_1 + 1)), (by first | rfl | (simp; done) | (simp [*]; done)), H', ⟨by have := HK1.out; omega⟩, ⟨by (with_reducible repeat (first | apply Kd.R_alloc | apply Kd.R_drewN | apply Kd.R_drew)); exact HO125.out⟩, ⟨by repeat (first | (with_reducible first | exact HB.out | apply below_alloc | apply pw_below_drewN | apply below_drew1) | exact HB.out)⟩⟩
              · rw [if_neg c7] at H
                exact absurd H (by simp)
            · rw [if_neg c6] at H
              have c6b0 : decide (x10_1 < a1) = false := decide_eq_false c6
              clear c6
              have H' := Aside0.mk H
              clear H
              have p122 : 0 ≤ (x10_1 : Int) := of_decide_eq_true (by first | (with_reducible assumption) | assumption)
              have q122 : x10_1 < (l0.length : Int) := of_decide_eq_true (by first | (with_reducible assumption) | assumption)
              obtain ⟨ad122, e122, hx122_0⟩ := Kd.at_int HR0.out x10_1 p122 q122
              cases e122
              replace hx122_0 := (HB.out.cell (World.block_lt_of_cell? w _ hx122_0)).trans hx122_0
              replace p122 := eq_true p122
              replace q122 := eq_true q122
              go_wp2
              go_roundg k1
              case measure => have := HK1.out; omega
              case rel => exact ⟨(x5_1), (wrap64 (x10_1 + 1)), (by first | rfl | (simp; done) | (simp [*]; done)), H', ⟨by have := HK1.out; omega⟩, ⟨by (with_reducible repeat (first | apply Kd.R_alloc | apply Kd.R_drewN | apply Kd.R_drew)); exact HO_5.out⟩, ⟨by repeat (first | (with_reducible first | exact HB.out | apply below_alloc | apply pw_below_drewN | apply below_drew1) | exact HB.out)⟩⟩
          · rw [if_neg c5] at H
            exact absurd H (by simp)
        · rw [if_neg c4] at H
          exact absurd H (by simp)
      · rw [if_neg c3] at H
        have c3b0 : decide (x10_1 < (l0.length : Int)) = false := decide_eq_false c3
        clear c3
        obtain rfl := Option.some.inj H
        go_wp2
        go_ret
        exact ⟨_, by first | rfl | (simp [errW_none, errW_some] <;> rfl) | (simp [*, errW_none, errW_some] <;> rfl), by (with_reducible repeat (first | apply Kd.R_alloc | apply Kd.R_drewN | apply Kd.R_drew)); exact HO_5.out, by repeat (first | (with_reducible first | exact HB.out | apply below_alloc | apply pw_below_drewN | apply below_drew1) | exact HB.out)⟩

def hoodwinkref01_Value.l0 : Nat → List Int → Int → Int → Option (Int)
  | 0, _, _, _ => none
  | k + 1, x0, x3, x4 => if x4 ≥ 0 then (if 0 ≤ x4 then (if x4 < (x0.length : Int) then (hoodwinkref01_Value.l0 k x0 (IntKind.u64.wrap ((IntKind.u64.wrap (256 * x3)) + (IntKind.u64.wrap (rd x0 x4)))) (wrap64 (x4 - 1))) else (none)) else (none)) else (some x3)
def hoodwinkref01_Value.f (k : Nat) (l0 : List Int) : Option (Int) := hoodwinkref01_Value.l0 k l0 0 (wrap64 ((l0.length : Int) - 1))
set_option maxHeartbeats 8000000 in
set_option maxRecDepth 100000 in
theorem hoodwinkref01_Value.calls (k : Nat) (A0 : Option Addr) (c0 : Nat) (l0 : List Int) (r : Int) (w : World) (hr0 : Kd.C (Kd.int .u8) w A0 l0.length l0) (hc0 : l0.length ≤ c0) (h : hoodwinkref01_Value.f k l0 = some r) :
    Calls Try.prog 51 #[.slice A0 l0.length c0] w fun e w' => e = .returned (.int .u64 r) ∧ Drawn0 w w' := by
  have HR0 := Aside0.mk hr0
  have HC0 := Aside0.mk hc0
  clear hr0 hc0
  have H : (hoodwinkref01_Value.l0 k l0 0 (wrap64 ((l0.length : Int) - 1))) = some r := h
  clear h
  have H' := Aside0.mk H
  clear H
  go_enter Try.func51, Try.ntmps51
  go_wp2
  go_loopg [3, 4] k (fun kq v3 v4 w' => ∃ (x3_1 : Int) (x4_1 : Int), v3 = .int .u64 x3_1 ∧ v4 = .int .i64 x4_1 ∧ Aside0 (hoodwinkref01_Value.l0 kq l0 x3_1 x4_1 = some r) ∧ Aside0 (kq ≤ k) ∧ Drawn0 w w')
  case atStart => exact ⟨(0), (wrap64 ((l0.length : Int) - 1)), (by first | rfl | (simp; done) | (simp [*]; done)), (by first | rfl | (simp; done) | (simp [*]; done)), H', ⟨Nat.le_refl _⟩, by repeat (first | exact Drawn0.refl _ | apply Drawn0.step)⟩
  case round =>
    clear H'
    obtain ⟨x3_1, x4_1, rfl, rfl, HA, HK1, ⟨m1, rfl⟩⟩ := hrel
    cases gk with
    | zero => exact absurd HA.out (by simp [hoodwinkref01_Value.l0])
    | succ k1 =>
      have H := HA.out
      clear HA
      simp only [hoodwinkref01_Value.l0] at H
      by_cases c2 : x4_1 ≥ 0
      · rw [if_pos c2] at H
        have c2b0 : decide (0 ≤ x4_1) = true := decide_eq_true c2
        clear c2
        by_cases c3 : 0 ≤ x4_1
        · rw [if_pos c3] at H
          have c3b0 : decide (0 ≤ x4_1) = true := decide_eq_true c3
          clear c3
          by_cases c4 : x4_1 < (l0.length : Int)
          · rw [if_pos c4] at H
            have c4b0 : decide (x4_1 < (l0.length : Int)) = true := decide_eq_true c4
            clear c4
            have H' := Aside0.mk H
            clear H
            have p247 : 0 ≤ (x4_1 : Int) := of_decide_eq_true (by first | (with_reducible assumption) | assumption)
            have q247 : x4_1 < (l0.length : Int) := of_decide_eq_true (by first | (with_reducible assumption) | assumption)
            obtain ⟨ad247, e247, hx247_0⟩ := Kd.at_int HR0.out x4_1 p247 q247
            cases e247
            replace p247 := eq_true p247
            replace q247 := eq_true q247
            go_wp2
            go_roundg k1
            case measure => have := HK1.out; omega
            case rel => exact ⟨(IntKind.u64.wrap ((IntKind.u64.wrap (256 * x3_1)) + (IntKind.u64.wrap (rd l0 x4_1)))), (wrap64 (x4_1 - 1)), (by first | rfl | (simp; done) | (simp [*]; done)), (by first | rfl | (simp; done) | (simp [*]; done)), H', ⟨by have := HK1.out; omega⟩, by repeat (first | exact Drawn0.refl _ | apply Drawn0.step)⟩
          · rw [if_neg c4] at H
            exact absurd H (by simp)
        · rw [if_neg c3] at H
          exact absurd H (by simp)
      · rw [if_neg c2] at H
        have c2b0 : decide (0 ≤ x4_1) = false := decide_eq_false c2
        clear c2
        obtain rfl := Option.some.inj H
        go_wp2
        go_ret
        exact ⟨by first | rfl | (simp; done) | (simp [*]; done), by repeat (first | exact Drawn0.refl _ | apply Drawn0.step)⟩

end Go.Proofs.Yticpjidcgaaldaa

namespace Go.Proofs.Yticpjidcgaaldaa
open Go.RowKit Go.Proofs.YticpjidcgaaldaaW.PrintWords Go.Proofs.YticpjidcgaaldaaW.PrintLast Go.Proofs.YticpjidcgaaldaaW.PrintMore
attribute [local go_sem] max2_int min2_int max_two min_two max_three min_three max_four min_four   -- for this text's walks alone
set_option linter.unusedVariables false
set_option linter.unusedSimpArgs false

def frame_Frame_right.f (a0_0 : Int) (a0_1 : Int) (a0_2 : Int) (a0_3 : Int) (a0_4 : Bool) (a0_5 : Bool) (a0_6 : Bool) (l0_7 : List Int) : Option (Bool) := if a0_6 = true then (if a0_1 = 0 then (if (l0_7.length : Int) = 0 then (if a0_4 = true then (some false) else (some (!a0_5))) else (some false)) else (some false)) else (some (decide ((l0_7.length : Int) ≤ 64)))
set_option maxHeartbeats 8000000 in
set_option maxRecDepth 100000 in
theorem frame_Frame_right.calls (a0_0 : Int) (a0_1 : Int) (a0_2 : Int) (a0_3 : Int) (a0_4 : Bool) (a0_5 : Bool) (a0_6 : Bool) (A0_7 : Option Addr) (c0_7 : Nat) (l0_7 : List Int) (r : Bool) (w : World) (hr0_7 : Kd.C (Kd.int .u8) w A0_7 l0_7.length l0_7) (hc0_7 : l0_7.length ≤ c0_7) (h : frame_Frame_right.f a0_0 a0_1 a0_2 a0_3 a0_4 a0_5 a0_6 l0_7 = some r) :
    Calls Try.prog 58 #[.agg #[.int .u16 a0_0, .int .u16 a0_1, .int .u16 a0_2, .int .u32 a0_3, .bool a0_4, .bool a0_5, .bool a0_6, .slice A0_7 l0_7.length c0_7]] w fun e w' => e = .returned (.bool r) ∧ Below w.heap.size w w' := by
  have hu72 := Try.underlying72
  have HR0_7 := Aside0.mk hr0_7
  have HC0_7 := Aside0.mk hc0_7
  clear hr0_7 hc0_7
  have HB := Aside0.mk (Below.refl w.heap.size w)
  have H : (if a0_6 = true then (if a0_1 = 0 then (if (l0_7.length : Int) = 0 then (if a0_4 = true then (some false) else (some (!a0_5))) else (some false)) else (some false)) else (some (decide ((l0_7.length : Int) ≤ 64)))) = some r := h
  clear h
  by_cases c2 : a0_6 = true
  · subst c2
    have H1 : (if a0_1 = 0 then (if (l0_7.length : Int) = 0 then (if a0_4 = true then (some false) else (some (!a0_5))) else (some false)) else (some false)) = some r := by rw [if_pos rfl] at H; exact H
    clear H
    have H := H1
    clear H1
    by_cases c3 : a0_1 = 0
    · rw [if_pos c3] at H
      have c3b0 : (a0_1 == 0) = true := beq_iff_eq.mpr c3
      have c3b1 : (a0_1 != 0) = false := bne_eq_false_iff_eq.mpr c3
      clear c3
      by_cases c4 : (l0_7.length : Int) = 0
      · rw [if_pos c4] at H
        have c4b0 : ((l0_7.length : Int) == 0) = true := beq_iff_eq.mpr c4
        have c4b1 : ((l0_7.length : Int) != 0) = false := bne_eq_false_iff_eq.mpr c4
        clear c4
        by_cases c5 : a0_4 = true
        · subst c5
          have H1 : (some false) = some r := by rw [if_pos rfl] at H; exact H
          clear H
          have H := H1
          clear H1
          obtain rfl := Option.some.inj H
          go_enter Try.func58, Try.ntmps58
          go_wp2_with (first | ((with_reducible refine gate_dst (N := 1) rfl ?_); (try (refine gate_guard (by rfl) ?_; dsimp only)); refine box_event ?hg (N := 1) ?hd (cs := #[.int .u16 a0_0, .int .u16 a0_1, .int .u16 a0_2, .int .u32 a0_3, .bool true, .bool a0_5, .bool true, .slice A0_7 l0_7.length c0_7]) (t := 72) ?hr ?_; (case hd => rfl); (case hg => rfl); (case hr => first | (go_simp; done) | (go_simp; rfl)); intro gb122 hg w6 hbox hb; have n0_ := Aside0.mk (below_step (by repeat (first | (with_reducible first | exact HB.out | apply below_alloc | apply pw_below_drewN | apply below_drew1) | exact HB.out)) hb); have n1_ := Aside0.mk (hbox); have n2_ := Aside0.mk ((by rw [hg]; exact (below_size (by repeat (first | (with_reducible first | exact HB.out | apply below_alloc | apply pw_below_drewN | apply below_drew1) | exact HB.out))) : w.heap.size ≤ gb122)); have n3_ := Aside0.mk ((by rw [hg]; exact (below_size (by repeat (first | (with_reducible first | exact HB.out | apply below_alloc | apply pw_below_drewN | apply below_drew1) | exact HB.out))) : w.heap.size ≤ gb122)); clear HB; have HB := n0_; have BK122 := n1_; have GW122 := n2_; have GE122 := n3_; clear n0_ n1_ n2_ n3_; clear hb hbox hg; have hcz7_0 : w6.cell? ⟨gb122, 0, none⟩ = some (.int .u16 a0_0) := (blk_cell BK122.out 0).trans rfl; have hcz7_1 : w6.cell? ⟨gb122, 1, none⟩ = some (.int .u16 a0_1) := (blk_cell BK122.out 1).trans rfl; have hcz7_2 : w6.cell? ⟨gb122, 2, none⟩ = some (.int .u16 a0_2) := (blk_cell BK122.out 2).trans rfl; have hcz7_3 : w6.cell? ⟨gb122, 3, none⟩ = some (.int .u32 a0_3) := (blk_cell BK122.out 3).trans rfl; have hcz7_4 : w6.cell? ⟨gb122, 4, none⟩ = some (.bool true) := (blk_cell BK122.out 4).trans rfl; have hcz7_5 : w6.cell? ⟨gb122, 5, none⟩ = some (.bool a0_5) := (blk_cell BK122.out 5).trans rfl; have hcz7_6 : w6.cell? ⟨gb122, 6, none⟩ = some (.bool true) := (blk_cell BK122.out 6).trans rfl; have hcz7_7 : w6.cell? ⟨gb122, 7, none⟩ = some (.slice A0_7 l0_7.length c0_7) := (blk_cell BK122.out 7).trans rfl; have hfz7_0 := blk_frozen BK122.out 0; have hfz7_1 := blk_frozen BK122.out 1; have hfz7_2 := blk_frozen BK122.out 2; have hfz7_3 := blk_frozen BK122.out 3; have hfz7_4 := blk_frozen BK122.out 4; have hfz7_5 := blk_frozen BK122.out 5; have hfz7_6 := blk_frozen BK122.out 6; have hfz7_7 := blk_frozen BK122.out 7))
          go_ret
          exact ⟨by first | rfl | (simp [errW_none, errW_some] <;> rfl) | (simp [*, errW_none, errW_some] <;> rfl), by repeat (first | (with_reducible first | exact HB.out | apply below_alloc | apply pw_below_drewN | apply below_drew1 | refine below_set ?_ GE122.out) | exact HB.out)⟩
        · replace c5 := Bool.eq_false_iff.mpr c5
          subst c5
          have H1 : (some (!a0_5)) = some r := by rw [if_neg (show ¬ (false = true) by decide)] at H; exact H
          clear H
          have H := H1
          clear H1
          obtain rfl := Option.some.inj H
          go_enter Try.func58, Try.ntmps58
          go_wp2_with (first | ((with_reducible refine gate_dst (N := 1) rfl ?_); (try (refine gate_guard (by rfl) ?_; dsimp only)); refine box_event ?hg (N := 1) ?hd (cs := #[.int .u16 a0_0, .int .u16 a0_1, .int .u16 a0_2, .int .u32 a0_3, .bool false, .bool a0_5, .bool true, .slice A0_7 l0_7.length c0_7]) (t := 72) ?hr ?_; (case hd => rfl); (case hg => rfl); (case hr => first | (go_simp; done) | (go_simp; rfl)); intro gb122 hg w8 hbox hb; have n0_ := Aside0.mk (below_step (by repeat (first | (with_reducible first | exact HB.out | apply below_alloc | apply pw_below_drewN | apply below_drew1) | exact HB.out)) hb); have n1_ := Aside0.mk (hbox); have n2_ := Aside0.mk ((by rw [hg]; exact (below_size (by repeat (first | (with_reducible first | exact HB.out | apply below_alloc | apply pw_below_drewN | apply below_drew1) | exact HB.out))) : w.heap.size ≤ gb122)); have n3_ := Aside0.mk ((by rw [hg]; exact (below_size (by repeat (first | (with_reducible first | exact HB.out | apply below_alloc | apply pw_below_drewN | apply below_drew1) | exact HB.out))) : w.heap.size ≤ gb122)); clear HB; have HB := n0_; have BK122 := n1_; have GW122 := n2_; have GE122 := n3_; clear n0_ n1_ n2_ n3_; clear hb hbox hg; have hcz9_0 : w8.cell? ⟨gb122, 0, none⟩ = some (.int .u16 a0_0) := (blk_cell BK122.out 0).trans rfl; have hcz9_1 : w8.cell? ⟨gb122, 1, none⟩ = some (.int .u16 a0_1) := (blk_cell BK122.out 1).trans rfl; have hcz9_2 : w8.cell? ⟨gb122, 2, none⟩ = some (.int .u16 a0_2) := (blk_cell BK122.out 2).trans rfl; have hcz9_3 : w8.cell? ⟨gb122, 3, none⟩ = some (.int .u32 a0_3) := (blk_cell BK122.out 3).trans rfl; have hcz9_4 : w8.cell? ⟨gb122, 4, none⟩ = some (.bool false) := (blk_cell BK122.out 4).trans rfl; have hcz9_5 : w8.cell? ⟨gb122, 5, none⟩ = some (.bool a0_5) := (blk_cell BK122.out 5).trans rfl; have hcz9_6 : w8.cell? ⟨gb122, 6, none⟩ = some (.bool true) := (blk_cell BK122.out 6).trans rfl; have hcz9_7 : w8.cell? ⟨gb122, 7, none⟩ = some (.slice A0_7 l0_7.length c0_7) := (blk_cell BK122.out 7).trans rfl; have hfz9_0 := blk_frozen BK122.out 0; have hfz9_1 := blk_frozen BK122.out 1; have hfz9_2 := blk_frozen BK122.out 2; have hfz9_3 := blk_frozen BK122.out 3; have hfz9_4 := blk_frozen BK122.out 4; have hfz9_5 := blk_frozen BK122.out 5; have hfz9_6 := blk_frozen BK122.out 6; have hfz9_7 := blk_frozen BK122.out 7))
          go_ret
          exact ⟨by first | rfl | (simp [errW_none, errW_some] <;> rfl) | (simp [*, errW_none, errW_some] <;> rfl), by repeat (first | (with_reducible first | exact HB.out | apply below_alloc | apply pw_below_drewN | apply below_drew1 | refine below_set ?_ GE122.out) | exact HB.out)⟩
      · rw [if_neg c4] at H
        have c4b0 : ((l0_7.length : Int) == 0) = false := beq_eq_false_iff_ne.mpr c4
        have c4b1 : ((l0_7.length : Int) != 0) = true := bne_iff_ne.mpr c4
        have c4b2 : ¬ (l0_7 = []) := fun h_ => c4 (by rw [h_]; rfl)
        obtain rfl := Option.some.inj H
        go_enter Try.func58, Try.ntmps58
        go_wp2_with (first | ((with_reducible refine gate_dst (N := 1) rfl ?_); (try (refine gate_guard (by rfl) ?_; dsimp only)); refine box_event ?hg (N := 1) ?hd (cs := #[.int .u16 a0_0, .int .u16 a0_1, .int .u16 a0_2, .int .u32 a0_3, .bool a0_4, .bool a0_5, .bool true, .slice A0_7 l0_7.length c0_7]) (t := 72) ?hr ?_; (case hd => rfl); (case hg => rfl); (case hr => first | (go_simp; done) | (go_simp; rfl)); intro gb122 hg w10 hbox hb; have n0_ := Aside0.mk (below_step (by repeat (first | (with_reducible first | exact HB.out | apply below_alloc | apply pw_below_drewN | apply below_drew1) | exact HB.out)) hb); have n1_ := Aside0.mk (hbox); have n2_ := Aside0.mk ((by rw [hg]; exact (below_size (by repeat (first | (with_reducible first | exact HB.out | apply below_alloc | apply pw_below_drewN | apply below_drew1) | exact HB.out))) : w.heap.size ≤ gb122)); have n3_ := Aside0.mk ((by rw [hg]; exact (below_size (by repeat (first | (with_reducible first | exact HB.out | apply below_alloc | apply pw_below_drewN | apply below_drew1) | exact HB.out))) : w.heap.size ≤ gb122)); clear HB; have HB := n0_; have BK122 := n1_; have GW122 := n2_; have GE122 := n3_; clear n0_ n1_ n2_ n3_; clear hb hbox hg; have hcz11_0 : w10.cell? ⟨gb122, 0, none⟩ = some (.int .u16 a0_0) := (blk_cell BK122.out 0).trans rfl; have hcz11_1 : w10.cell? ⟨gb122, 1, none⟩ = some (.int .u16 a0_1) := (blk_cell BK122.out 1).trans rfl; have hcz11_2 : w10.cell? ⟨gb122, 2, none⟩ = some (.int .u16 a0_2) := (blk_cell BK122.out 2).trans rfl; have hcz11_3 : w10.cell? ⟨gb122, 3, none⟩ = some (.int .u32 a0_3) := (blk_cell BK122.out 3).trans rfl; have hcz11_4 : w10.cell? ⟨gb122, 4, none⟩ = some (.bool a0_4) := (blk_cell BK122.out 4).trans rfl; have hcz11_5 : w10.cell? ⟨gb122, 5, none⟩ = some (.bool a0_5) := (blk_cell BK122.out 5).trans rfl; have hcz11_6 : w10.cell? ⟨gb122, 6, none⟩ = some (.bool true) := (blk_cell BK122.out 6).trans rfl; have hcz11_7 : w10.cell? ⟨gb122, 7, none⟩ = some (.slice A0_7 l0_7.length c0_7) := (blk_cell BK122.out 7).trans rfl; have hfz11_0 := blk_frozen BK122.out 0; have hfz11_1 := blk_frozen BK122.out 1; have hfz11_2 := blk_frozen BK122.out 2; have hfz11_3 := blk_frozen BK122.out 3; have hfz11_4 := blk_frozen BK122.out 4; have hfz11_5 := blk_frozen BK122.out 5; have hfz11_6 := blk_frozen BK122.out 6; have hfz11_7 := blk_frozen BK122.out 7))
        go_ret
        exact ⟨by first | rfl | (simp [errW_none, errW_some] <;> rfl) | (simp [*, errW_none, errW_some] <;> rfl), by repeat (first | (with_reducible first | exact HB.out | apply below_alloc | apply pw_below_drewN | apply below_drew1 | refine below_set ?_ GE122.out) | exact HB.out)⟩
    · rw [if_neg c3] at H
      have c3b0 : (a0_1 == 0) = false := beq_eq_false_iff_ne.mpr c3
      have c3b1 : (a0_1 != 0) = true := bne_iff_ne.mpr c3
      obtain rfl := Option.some.inj H
      go_enter Try.func58, Try.ntmps58
      go_wp2_with (first | ((with_reducible refine gate_dst (N := 1) rfl ?_); (try (refine gate_guard (by rfl) ?_; dsimp only)); refine box_event ?hg (N := 1) ?hd (cs := #[.int .u16 a0_0, .int .u16 a0_1, .int .u16 a0_2, .int .u32 a0_3, .bool a0_4, .bool a0_5, .bool true, .slice A0_7 l0_7.length c0_7]) (t := 72) ?hr ?_; (case hd => rfl); (case hg => rfl); (case hr => first | (go_simp; done) | (go_simp; rfl)); intro gb122 hg w12 hbox hb; have n0_ := Aside0.mk (below_step (by repeat (first | (with_reducible first | exact HB.out | apply below_alloc | apply pw_below_drewN | apply below_drew1) | exact HB.out)) hb); have n1_ := Aside0.mk (hbox); have n2_ := Aside0.mk ((by rw [hg]; exact (below_size (by repeat (first | (with_reducible first | exact HB.out | apply below_alloc | apply pw_below_drewN | apply below_drew1) | exact HB.out))) : w.heap.size ≤ gb122)); have n3_ := Aside0.mk ((by rw [hg]; exact (below_size (by repeat (first | (with_reducible first | exact HB.out | apply below_alloc | apply pw_below_drewN | apply below_drew1) | exact HB.out))) : w.heap.size ≤ gb122)); clear HB; have HB := n0_; have BK122 := n1_; have GW122 := n2_; have GE122 := n3_; clear n0_ n1_ n2_ n3_; clear hb hbox hg; have hcz13_0 : w12.cell? ⟨gb122, 0, none⟩ = some (.int .u16 a0_0) := (blk_cell BK122.out 0).trans rfl; have hcz13_1 : w12.cell? ⟨gb122, 1, none⟩ = some (.int .u16 a0_1) := (blk_cell BK122.out 1).trans rfl; have hcz13_2 : w12.cell? ⟨gb122, 2, none⟩ = some (.int .u16 a0_2) := (blk_cell BK122.out 2).trans rfl; have hcz13_3 : w12.cell? ⟨gb122, 3, none⟩ = some (.int .u32 a0_3) := (blk_cell BK122.out 3).trans rfl; have hcz13_4 : w12.cell? ⟨gb122, 4, none⟩ = some (.bool a0_4) := (blk_cell BK122.out 4).trans rfl; have hcz13_5 : w12.cell? ⟨gb122, 5, none⟩ = some (.bool a0_5) := (blk_cell BK122.out 5).trans rfl; have hcz13_6 : w12.cell? ⟨gb122, 6, none⟩ = some (.bool true) := (blk_cell BK122.out 6).trans rfl; have hcz13_7 : w12.cell? ⟨gb122, 7, none⟩ = some (.slice A0_7 l0_7.length c0_7) := (blk_cell BK122.out 7).trans rfl; have hfz13_0 := blk_frozen BK122.out 0; have hfz13_1 := blk_frozen BK122.out 1; have hfz13_2 := blk_frozen BK122.out 2; have hfz13_3 := blk_frozen BK122.out 3; have hfz13_4 := blk_frozen BK122.out 4; have hfz13_5 := blk_frozen BK122.out 5; have hfz13_6 := blk_frozen BK122.out 6; have hfz13_7 := blk_frozen BK122.out 7))
      go_ret
      exact ⟨by first | rfl | (simp [errW_none, errW_some] <;> rfl) | (simp [*, errW_none, errW_some] <;> rfl), by repeat (first | (with_reducible first | exact HB.out | apply below_alloc | apply pw_below_drewN | apply below_drew1 | refine below_set ?_ GE122.out) | exact HB.out)⟩
  · replace c2 := Bool.eq_false_iff.mpr c2
    subst c2
    have H1 : (some (decide ((l0_7.length : Int) ≤ 64))) = some r := by rw [if_neg (show ¬ (false = true) by decide)] at H; exact H
    clear H
    have H := H1
    clear H1
    obtain rfl := Option.some.inj H
    go_enter Try.func58, Try.ntmps58
    go_wp2_with (first | ((with_reducible refine gate_dst (N := 1) rfl ?_); (try (refine gate_guard (by rfl) ?_; dsimp only)); refine box_event ?hg (N := 1) ?hd (cs := #[.int .u16 a0_0, .int .u16 a0_1, .int .u16 a0_2, .int .u32 a0_3, .bool a0_4, .bool a0_5, .bool false, .slice A0_7 l0_7.length c0_7]) (t := 72) ?hr ?_; (case hd => rfl); (case hg => rfl); (case hr => first | (go_simp; done) | (go_simp; rfl)); intro gb122 hg w14 hbox hb; have n0_ := Aside0.mk (below_step (by repeat (first | (with_reducible first | exact HB.out | apply below_alloc | apply pw_below_drewN | apply below_drew1) | exact HB.out)) hb); have n1_ := Aside0.mk (hbox); have n2_ := Aside0.mk ((by rw [hg]; exact (below_size (by repeat (first | (with_reducible first | exact HB.out | apply below_alloc | apply pw_below_drewN | apply below_drew1) | exact HB.out))) : w.heap.size ≤ gb122)); have n3_ := Aside0.mk ((by rw [hg]; exact (below_size (by repeat (first | (with_reducible first | exact HB.out | apply below_alloc | apply pw_below_drewN | apply below_drew1) | exact HB.out))) : w.heap.size ≤ gb122)); clear HB; have HB := n0_; have BK122 := n1_; have GW122 := n2_; have GE122 := n3_; clear n0_ n1_ n2_ n3_; clear hb hbox hg; have hcz15_0 : w14.cell? ⟨gb122, 0, none⟩ = some (.int .u16 a0_0) := (blk_cell BK122.out 0).trans rfl; have hcz15_1 : w14.cell? ⟨gb122, 1, none⟩ = some (.int .u16 a0_1) := (blk_cell BK122.out 1).trans rfl; have hcz15_2 : w14.cell? ⟨gb122, 2, none⟩ = some (.int .u16 a0_2) := (blk_cell BK122.out 2).trans rfl; have hcz15_3 : w14.cell? ⟨gb122, 3, none⟩ = some (.int .u32 a0_3) := (blk_cell BK122.out 3).trans rfl; have hcz15_4 : w14.cell? ⟨gb122, 4, none⟩ = some (.bool a0_4) := (blk_cell BK122.out 4).trans rfl; have hcz15_5 : w14.cell? ⟨gb122, 5, none⟩ = some (.bool a0_5) := (blk_cell BK122.out 5).trans rfl; have hcz15_6 : w14.cell? ⟨gb122, 6, none⟩ = some (.bool false) := (blk_cell BK122.out 6).trans rfl; have hcz15_7 : w14.cell? ⟨gb122, 7, none⟩ = some (.slice A0_7 l0_7.length c0_7) := (blk_cell BK122.out 7).trans rfl; have hfz15_0 := blk_frozen BK122.out 0; have hfz15_1 := blk_frozen BK122.out 1; have hfz15_2 := blk_frozen BK122.out 2; have hfz15_3 := blk_frozen BK122.out 3; have hfz15_4 := blk_frozen BK122.out 4; have hfz15_5 := blk_frozen BK122.out 5; have hfz15_6 := blk_frozen BK122.out 6; have hfz15_7 := blk_frozen BK122.out 7))
    go_ret
    exact ⟨by first | rfl | (simp [errW_none, errW_some] <;> rfl) | (simp [*, errW_none, errW_some] <;> rfl), by repeat (first | (with_reducible first | exact HB.out | apply below_alloc | apply pw_below_drewN | apply below_drew1 | refine below_set ?_ GE122.out) | exact HB.out)⟩

def frame_Frame_flags.j0 : Nat → Int → Int → Int → Int → Int → Bool → Bool → Bool → List Int → Option (Int)
  | 0, _, _, _, _, _, _, _, _, _ => none
  | k + 1, x3, x124000, x124001, x124002, x124003, x124004, x124005, x124006, x124007 => if x124005 = true then (if x124006 = true then (some (Go.bits .or .u8 (Go.bits .or .u8 x3 2) 4)) else (some (Go.bits .or .u8 x3 2))) else (if x124006 = true then (some (Go.bits .or .u8 x3 4)) else (some x3))
def frame_Frame_flags.f (k : Nat) (a0_0 : Int) (a0_1 : Int) (a0_2 : Int) (a0_3 : Int) (a0_4 : Bool) (a0_5 : Bool) (a0_6 : Bool) (l0_7 : List Int) : Option (Int) := if a0_4 = true then (frame_Frame_flags.j0 k (Go.bits .or .u8 0 1) a0_0 a0_1 a0_2 a0_3 a0_4 a0_5 a0_6 l0_7) else (frame_Frame_flags.j0 k 0 a0_0 a0_1 a0_2 a0_3 a0_4 a0_5 a0_6 l0_7)
set_option maxHeartbeats 8000000 in
set_option maxRecDepth 100000 in
theorem frame_Frame_flags.calls (k : Nat) (a0_0 : Int) (a0_1 : Int) (a0_2 : Int) (a0_3 : Int) (a0_4 : Bool) (a0_5 : Bool) (a0_6 : Bool) (A0_7 : Option Addr) (c0_7 : Nat) (l0_7 : List Int) (r : Int) (w : World) (hr0_7 : Kd.C (Kd.int .u8) w A0_7 l0_7.length l0_7) (hc0_7 : l0_7.length ≤ c0_7) (h : frame_Frame_flags.f k a0_0 a0_1 a0_2 a0_3 a0_4 a0_5 a0_6 l0_7 = some r) :
    Calls Try.prog 60 #[.agg #[.int .u16 a0_0, .int .u16 a0_1, .int .u16 a0_2, .int .u32 a0_3, .bool a0_4, .bool a0_5, .bool a0_6, .slice A0_7 l0_7.length c0_7]] w fun e w' => e = .returned (.int .u8 r) ∧ Below w.heap.size w w' := by
  have hu72 := Try.underlying72
  have HR0_7 := Aside0.mk hr0_7
  have HC0_7 := Aside0.mk hc0_7
  clear hr0_7 hc0_7
  have HB := Aside0.mk (Below.refl w.heap.size w)
  have H : (if a0_4 = true then (frame_Frame_flags.j0 k (Go.bits .or .u8 0 1) a0_0 a0_1 a0_2 a0_3 a0_4 a0_5 a0_6 l0_7) else (frame_Frame_flags.j0 k 0 a0_0 a0_1 a0_2 a0_3 a0_4 a0_5 a0_6 l0_7)) = some r := h
  clear h
  have HC2 := Aside0.mk H
  clear H
  go_enter Try.func60, Try.ntmps60
  go_upto_if 5 with (first | ((with_reducible refine gate_dst (N := 1) rfl ?_); refine box_event ?hg (N := 1) ?hd (cs := #[.int .u16 a0_0, .int .u16 a0_1, .int .u16 a0_2, .int .u32 a0_3, .bool a0_4, .bool a0_5, .bool a0_6, .slice A0_7 l0_7.length c0_7]) (t := 72) ?hr ?_; (case hd => rfl); (case hg => rfl); (case hr => first | (go_simp; done) | (go_simp; rfl)); intro gb123 hg w3 hbox hb; have n0_ := Aside0.mk (below_step (by repeat (first | (with_reducible first | exact HB.out | apply below_alloc | apply pw_below_drewN | apply below_drew1) | exact HB.out)) hb); have n1_ := Aside0.mk (hbox); have n2_ := Aside0.mk ((by rw [hg]; exact (below_size (by repeat (first | (with_reducible first | exact HB.out | apply below_alloc | apply pw_below_drewN | apply below_drew1) | exact HB.out))) : w.heap.size ≤ gb123)); have n3_ := Aside0.mk ((by rw [hg]; exact (below_size (by repeat (first | (with_reducible first | exact HB.out | apply below_alloc | apply pw_below_drewN | apply below_drew1) | exact HB.out))) : w.heap.size ≤ gb123)); clear HB; have HB := n0_; have BK123 := n1_; have GW123 := n2_; have GE123 := n3_; clear n0_ n1_ n2_ n3_; clear hb hbox hg; have hcz4_0 : w3.cell? ⟨gb123, 0, none⟩ = some (.int .u16 a0_0) := (blk_cell BK123.out 0).trans rfl; have hcz4_1 : w3.cell? ⟨gb123, 1, none⟩ = some (.int .u16 a0_1) := (blk_cell BK123.out 1).trans rfl; have hcz4_2 : w3.cell? ⟨gb123, 2, none⟩ = some (.int .u16 a0_2) := (blk_cell BK123.out 2).trans rfl; have hcz4_3 : w3.cell? ⟨gb123, 3, none⟩ = some (.int .u32 a0_3) := (blk_cell BK123.out 3).trans rfl; have hcz4_4 : w3.cell? ⟨gb123, 4, none⟩ = some (.bool a0_4) := (blk_cell BK123.out 4).trans rfl; have hcz4_5 : w3.cell? ⟨gb123, 5, none⟩ = some (.bool a0_5) := (blk_cell BK123.out 5).trans rfl; have hcz4_6 : w3.cell? ⟨gb123, 6, none⟩ = some (.bool a0_6) := (blk_cell BK123.out 6).trans rfl; have hcz4_7 : w3.cell? ⟨gb123, 7, none⟩ = some (.slice A0_7 l0_7.length c0_7) := (blk_cell BK123.out 7).trans rfl; have hfz4_0 := blk_frozen BK123.out 0; have hfz4_1 := blk_frozen BK123.out 1; have hfz4_2 := blk_frozen BK123.out 2; have hfz4_3 := blk_frozen BK123.out 3; have hfz4_4 := blk_frozen BK123.out 4; have hfz4_5 := blk_frozen BK123.out 5; have hfz4_6 := blk_frozen BK123.out 6; have hfz4_7 := blk_frozen BK123.out 7))
  (try simp only [Act.put, List.setIfInBounds_toArray, List.set_cons_zero, List.set_cons_succ])
  go_cut [3] (fun v3 wc => ∃ (kq : Nat) (x3_1 : Int), v3 = .int .u8 x3_1 ∧ Aside0 (frame_Frame_flags.j0 kq x3_1 a0_0 a0_1 a0_2 a0_3 a0_4 a0_5 a0_6 l0_7 = some r) ∧ Aside0 (kq ≤ k) ∧ Aside0 (wc.heap[gb123]? = some (.cells #[.int .u16 a0_0, .int .u16 a0_1, .int .u16 a0_2, .int .u32 a0_3, .bool a0_4, .bool a0_5, .bool a0_6, (.slice A0_7 l0_7.length c0_7)] 72 (0, 0))) ∧ Aside0 (Below w.heap.size w wc))
  case first =>
    have H := HC2.out
    clear HC2
    by_cases c5 : a0_4 = true
    · subst c5
      have H1 : (frame_Frame_flags.j0 k (Go.bits .or .u8 0 1) a0_0 a0_1 a0_2 a0_3 true a0_5 a0_6 l0_7) = some r := by rw [if_pos rfl] at H; exact H
      clear H
      have H := H1
      clear H1
      have H' := Aside0.mk H
      clear H
      go_wp2
      go_meet
      case rel => exact ⟨_, (Go.bits .or .u8 0 1), (by first | rfl | (simp; done) | (simp [*]; done)), H', ⟨by first | omega | exact Nat.le_refl _⟩, ⟨by (with_reducible repeat (first | refine blk_drewN ?_ _ | refine blk_drew ?_ | refine blk_alloc ?_ _)); exact BK123.out⟩, ⟨by repeat (first | (with_reducible first | exact HB.out | apply below_alloc | apply pw_below_drewN | apply below_drew1 | refine below_set ?_ GE123.out) | exact HB.out)⟩⟩
    · replace c5 := Bool.eq_false_iff.mpr c5
      subst c5
      have H1 : (frame_Frame_flags.j0 k 0 a0_0 a0_1 a0_2 a0_3 false a0_5 a0_6 l0_7) = some r := by rw [if_neg (show ¬ (false = true) by decide)] at H; exact H
      clear H
      have H := H1
      clear H1
      have H' := Aside0.mk H
      clear H
      go_wp2
      go_meet
      case rel => exact ⟨_, (0), (by first | rfl | (simp; done) | (simp [*]; done)), H', ⟨by first | omega | exact Nat.le_refl _⟩, ⟨by (with_reducible repeat (first | refine blk_drewN ?_ _ | refine blk_drew ?_ | refine blk_alloc ?_ _)); exact BK123.out⟩, ⟨by repeat (first | (with_reducible first | exact HB.out | apply below_alloc | apply pw_below_drewN | apply below_drew1 | refine below_set ?_ GE123.out) | exact HB.out)⟩⟩
  case rest =>
    clear HC2
    try clear p2
    try clear c5
    try clear hcz4_0
    try clear hcz4_1
    try clear hcz4_2
    try clear hcz4_3
    try clear hcz4_4
    try clear hcz4_5
    try clear hcz4_6
    try clear hcz4_7
    try clear hfz4_0
    try clear hfz4_1
    try clear hfz4_2
    try clear hfz4_3
    try clear hfz4_4
    try clear hfz4_5
    try clear hfz4_6
    try clear hfz4_7
    obtain ⟨kq, x3_1, rfl, HA, HJ1, BK123, HB⟩ := hcut
    cases kq with
    | zero => exact absurd HA.out (by simp [frame_Frame_flags.j0])
    | succ kj1 =>
      have H := HA.out
      clear HA
      simp only [frame_Frame_flags.j0] at H
      by_cases c6 : a0_5 = true
      · subst c6
        have H1 : (if a0_6 = true then (some (Go.bits .or .u8 (Go.bits .or .u8 x3_1 2) 4)) else (some (Go.bits .or .u8 x3_1 2))) = some r := by rw [if_pos rfl] at H; exact H
        clear H
        have H := H1
        clear H1
        by_cases c7 : a0_6 = true
        · subst c7
          have H1 : (some (Go.bits .or .u8 (Go.bits .or .u8 x3_1 2) 4)) = some r := by rw [if_pos rfl] at H; exact H
          clear H
          have H := H1
          clear H1
          obtain rfl := Option.some.inj H
          have hcz8_0 : wc.cell? ⟨gb123, 0, none⟩ = some (.int .u16 a0_0) := (blk_cell BK123.out 0).trans rfl
          have hcz8_1 : wc.cell? ⟨gb123, 1, none⟩ = some (.int .u16 a0_1) := (blk_cell BK123.out 1).trans rfl
          have hcz8_2 : wc.cell? ⟨gb123, 2, none⟩ = some (.int .u16 a0_2) := (blk_cell BK123.out 2).trans rfl
          have hcz8_3 : wc.cell? ⟨gb123, 3, none⟩ = some (.int .u32 a0_3) := (blk_cell BK123.out 3).trans rfl
          have hcz8_4 : wc.cell? ⟨gb123, 4, none⟩ = some (.bool a0_4) := (blk_cell BK123.out 4).trans rfl
          have hcz8_5 : wc.cell? ⟨gb123, 5, none⟩ = some (.bool true) := (blk_cell BK123.out 5).trans rfl
          have hcz8_6 : wc.cell? ⟨gb123, 6, none⟩ = some (.bool true) := (blk_cell BK123.out 6).trans rfl
          have hcz8_7 : wc.cell? ⟨gb123, 7, none⟩ = some (.slice A0_7 l0_7.length c0_7) := (blk_cell BK123.out 7).trans rfl
          have hfz8_0 := blk_frozen BK123.out 0
          have hfz8_1 := blk_frozen BK123.out 1
          have hfz8_2 := blk_frozen BK123.out 2
          have hfz8_3 := blk_frozen BK123.out 3
          have hfz8_4 := blk_frozen BK123.out 4
          have hfz8_5 := blk_frozen BK123.out 5
          have hfz8_6 := blk_frozen BK123.out 6
          have hfz8_7 := blk_frozen BK123.out 7
          go_wp2
          go_ret
          exact ⟨by first | rfl | (simp [errW_none, errW_some] <;> rfl) | (simp [*, errW_none, errW_some] <;> rfl), by repeat (first | (with_reducible first | exact HB.out | apply below_alloc | apply pw_below_drewN | apply below_drew1 | refine below_set ?_ GE123.out) | exact HB.out)⟩
        · replace c7 := Bool.eq_false_iff.mpr c7
          subst c7
          have H1 : (some (Go.bits .or .u8 x3_1 2)) = some r := by rw [if_neg (show ¬ (false = true) by decide)] at H; exact H
          clear H
          have H := H1
          clear H1
          obtain rfl := Option.some.inj H
          have hcz9_0 : wc.cell? ⟨gb123, 0, none⟩ = some (.int .u16 a0_0) := (blk_cell BK123.out 0).trans rfl
          have hcz9_1 : wc.cell? ⟨gb123, 1, none⟩ = some (.int .u16 a0_1) := (blk_cell BK123.out 1).trans rfl
          have hcz9_2 : wc.cell? ⟨gb123, 2, none⟩ = some (.int .u16 a0_2) := (blk_cell BK123.out 2).trans rfl
          have hcz9_3 : wc.cell? ⟨gb123, 3, none⟩ = some (.int .u32 a0_3) := (blk_cell BK123.out 3).trans rfl
          have hcz9_4 : wc.cell? ⟨gb123, 4, none⟩ = some (.bool a0_4) := (blk_cell BK123.out 4).trans rfl
          have hcz9_5 : wc.cell? ⟨gb123, 5, none⟩ = some (.bool true) := (blk_cell BK123.out 5).trans rfl
          have hcz9_6 : wc.cell? ⟨gb123, 6, none⟩ = some (.bool false) := (blk_cell BK123.out 6).trans rfl
          have hcz9_7 : wc.cell? ⟨gb123, 7, none⟩ = some (.slice A0_7 l0_7.length c0_7) := (blk_cell BK123.out 7).trans rfl
          have hfz9_0 := blk_frozen BK123.out 0
          have hfz9_1 := blk_frozen BK123.out 1
          have hfz9_2 := blk_frozen BK123.out 2
          have hfz9_3 := blk_frozen BK123.out 3
          have hfz9_4 := blk_frozen BK123.out 4
          have hfz9_5 := blk_frozen BK123.out 5
          have hfz9_6 := blk_frozen BK123.out 6
          have hfz9_7 := blk_frozen BK123.out 7
          go_wp2
          go_ret
          exact ⟨by first | rfl | (simp [errW_none, errW_some] <;> rfl) | (simp [*, errW_none, errW_some] <;> rfl), by repeat (first | (with_reducible first | exact HB.out | apply below_alloc | apply pw_below_drewN | apply below_drew1 | refine below_set ?_ GE123.out) | exact HB.out)⟩
      · replace c6 := Bool.eq_false_iff.mpr c6
        subst c6
        have H1 : (if a0_6 = true then (some (Go.bits .or .u8 x3_1 4)) else (some x3_1)) = some r := by rw [if_neg (show ¬ (false = true) by decide)] at H; exact H
        clear H
        have H := H1
        clear H1
        by_cases c10 : a0_6 = true
        · subst c10
          have H1 : (some (Go.bits .or .u8 x3_1 4)) = some r := by rw [if_pos rfl] at H; exact H
          clear H
          have H := H1
          clear H1
          obtain rfl := Option.some.inj H
          have hcz11_0 : wc.cell? ⟨gb123, 0, none⟩ = some (.int .u16 a0_0) := (blk_cell BK123.out 0).trans rfl
          have hcz11_1 : wc.cell? ⟨gb123, 1, none⟩ = some (.int .u16 a0_1) := (blk_cell BK123.out 1).trans rfl
          have hcz11_2 : wc.cell? ⟨gb123, 2, none⟩ = some (.int .u16 a0_2) := (blk_cell BK123.out 2).trans rfl
          have hcz11_3 : wc.cell? ⟨gb123, 3, none⟩ = some (.int .u32 a0_3) := (blk_cell BK123.out 3).trans rfl
          have hcz11_4 : wc.cell? ⟨gb123, 4, none⟩ = some (.bool a0_4) := (blk_cell BK123.out 4).trans rfl
          have hcz11_5 : wc.cell? ⟨gb123, 5, none⟩ = some (.bool false) := (blk_cell BK123.out 5).trans rfl
          have hcz11_6 : wc.cell? ⟨gb123, 6, none⟩ = some (.bool true) := (blk_cell BK123.out 6).trans rfl
          have hcz11_7 : wc.cell? ⟨gb123, 7, none⟩ = some (.slice A0_7 l0_7.length c0_7) := (blk_cell BK123.out 7).trans rfl
          have hfz11_0 := blk_frozen BK123.out 0
          have hfz11_1 := blk_frozen BK123.out 1
          have hfz11_2 := blk_frozen BK123.out 2
          have hfz11_3 := blk_frozen BK123.out 3
          have hfz11_4 := blk_frozen BK123.out 4
          have hfz11_5 := blk_frozen BK123.out 5
          have hfz11_6 := blk_frozen BK123.out 6
          have hfz11_7 := blk_frozen BK123.out 7
          go_wp2
          go_ret
          exact ⟨by first | rfl | (simp [errW_none, errW_some] <;> rfl) | (simp [*, errW_none, errW_some] <;> rfl), by repeat (first | (with_reducible first | exact HB.out | apply below_alloc | apply pw_below_drewN | apply below_drew1 | refine below_set ?_ GE123.out) | exact HB.out)⟩
        · replace c10 := Bool.eq_false_iff.mpr c10
          subst c10
          have H1 : (some x3_1) = some r := by rw [if_neg (show ¬ (false = true) by decide)] at H; exact H
          clear H
          have H := H1
          clear H1
          obtain rfl := Option.some.inj H
          have hcz12_0 : wc.cell? ⟨gb123, 0, none⟩ = some (.int .u16 a0_0) := (blk_cell BK123.out 0).trans rfl
          have hcz12_1 : wc.cell? ⟨gb123, 1, none⟩ = some (.int .u16 a0_1) := (blk_cell BK123.out 1).trans rfl
          have hcz12_2 : wc.cell? ⟨gb123, 2, none⟩ = some (.int .u16 a0_2) := (blk_cell BK123.out 2).trans rfl
          have hcz12_3 : wc.cell? ⟨gb123, 3, none⟩ = some (.int .u32 a0_3) := (blk_cell BK123.out 3).trans rfl
          have hcz12_4 : wc.cell? ⟨gb123, 4, none⟩ = some (.bool a0_4) := (blk_cell BK123.out 4).trans rfl
          have hcz12_5 : wc.cell? ⟨gb123, 5, none⟩ = some (.bool false) := (blk_cell BK123.out 5).trans rfl
          have hcz12_6 : wc.cell? ⟨gb123, 6, none⟩ = some (.bool false) := (blk_cell BK123.out 6).trans rfl
          have hcz12_7 : wc.cell? ⟨gb123, 7, none⟩ = some (.slice A0_7 l0_7.length c0_7) := (blk_cell BK123.out 7).trans rfl
          have hfz12_0 := blk_frozen BK123.out 0
          have hfz12_1 := blk_frozen BK123.out 1
          have hfz12_2 := blk_frozen BK123.out 2
          have hfz12_3 := blk_frozen BK123.out 3
          have hfz12_4 := blk_frozen BK123.out 4
          have hfz12_5 := blk_frozen BK123.out 5
          have hfz12_6 := blk_frozen BK123.out 6
          have hfz12_7 := blk_frozen BK123.out 7
          go_wp2
          go_ret
          exact ⟨by first | rfl | (simp [errW_none, errW_some] <;> rfl) | (simp [*, errW_none, errW_some] <;> rfl), by repeat (first | (with_reducible first | exact HB.out | apply below_alloc | apply pw_below_drewN | apply below_drew1 | refine below_set ?_ GE123.out) | exact HB.out)⟩

end Go.Proofs.Yticpjidcgaaldaa

namespace Go.Proofs.Yticpjidcgaaldaa
open Go.RowKit Go.Proofs.YticpjidcgaaldaaW.PrintWords Go.Proofs.YticpjidcgaaldaaW.PrintLast Go.Proofs.YticpjidcgaaldaaW.PrintMore
set_option linter.unusedVariables false
set_option linter.unusedSimpArgs false

theorem wx_info5 : (Try.prog.info? 5).map (fun i => (i.zero, i.size, i.bytes)) = some (some (.int .u8 0), 1, 1) := by kernel_rfl

set_option maxHeartbeats 800000 in
theorem clone_any (A : Option Addr) (n c : Nat) (l : List Int) (w : World) (hr : (Kd.int .u8).C w A n l) (hl : n ≤ 140737488351232) :
    Calls Try.prog 71 #[.slice A n c] w fun e w' => ∃ v, e = .returned v ∧ (Kd.int .u8).R 5 w' w.heap.size (fun _ => True) v l ∧ Below w.heap.size w w' := by
  obtain rfl := hr.1
  have HR := Aside0.mk hr
  clear hr
  have q22 : ∀ (w : World) (a : Option Addr) (n c n' c' : Nat), (binOp .eql 23 (.slice a n c) (.slice none n' c')).run Try.prog w = .ok (.bool a.isNone) w := fun w a n c n' c' => Lib.run_eql_slice_nil w _ _ a n c n' c' Try.underlying23
  cases A with
  | none =>
    have h0 : l = [] := C_none HR.out
    subst h0
    go_enter Try.func71, Try.ntmps71
    go_wp2
    go_ret
    exact ⟨_, rfl, Kd.R_nil _ _ _ _ _, Below.refl _ _⟩
  | some ad =>
    go_enter Try.func71, Try.ntmps71
    go_wp2_with (at_builtin; go_loud (refine Kd.R_append_row (Value.int .u8) (0 : Int) (h1 := fun _ => rfl) (w0 := w) w.heap.size rfl (.tmp 5) (.tmp 6) 23 5 (.int .u8 0) 1 rfl Try.underlying23 wx_info5 rfl (by decide) (.slice (some ⟨w.heap.size, 0, none⟩) 0 0) [] l (some ad) l.length c (fun _ => True) rfl rfl (fun _ _ => trivial) ?aO ?aR ?aB ?aS ?aL ?_))
    case aO => exact R_made0 _ _ _ _ (Nat.le_refl _)
    case aR => exact Kd.C_alloc HR.out _
    case aB => exact below_alloc (Below.refl _ _) _
    case aS => simp
    case aL => simp; omega
    intro v1 w1 ho hb _ _
    have HO := Aside0.mk ho
    have HB := Aside0.mk hb
    clear ho hb
    go_wp2
    go_ret
    exact ⟨_, rfl, HO.out, HB.out⟩

def bitN (s : Nat) : Nat := s / 2 ^^^ s % 2 * 2197175160
def bits8 : Nat → Nat → Nat
  | 0, s => s
  | k + 1, s => bitN (bits8 k s)
def stepN (s b : Nat) : Nat := bits8 8 (s ^^^ b)
theorem bitN_lt {s : Nat} (h : s < 4294967296) : bitN s < 4294967296 := Nat.xor_lt_two_pow (n := 32) (by omega) (by omega)
theorem bits8_lt : ∀ (k : Nat) {s : Nat}, s < 4294967296 → bits8 k s < 4294967296
  | 0, _, h => h
  | k + 1, _, h => bitN_lt (bits8_lt k h)
def tstep (tb : Nat → Nat) (s : Nat) (b : Int) : Nat := s / 256 ^^^ tb (s % 256 ^^^ b.toNat)
def tsum (tb : Nat → Nat) (s : Nat) (l : List Int) : Nat := l.foldl (tstep tb) s
theorem tstep_lt {tb : Nat → Nat} (h : ∀ i, tb i < 4294967296) {s : Nat} (hs : s < 4294967296) (b : Int) : tstep tb s b < 4294967296 :=
  Nat.xor_lt_two_pow (n := 32) (by omega) (h _)
theorem tsum_lt {tb : Nat → Nat} (h : ∀ i, tb i < 4294967296) : ∀ (l : List Int) {s : Nat}, s < 4294967296 → tsum tb s l < 4294967296
  | [], _, hs => hs
  | b :: l, _, hs => tsum_lt h l (tstep_lt h hs b)
theorem tsum_append (tb : Nat → Nat) (s : Nat) (a b : List Int) : tsum tb s (a ++ b) = tsum tb (tsum tb s a) b := List.foldl_append
theorem tsum_snoc (tb : Nat → Nat) (s : Nat) (a : List Int) (b : Int) : tsum tb s (a ++ [b]) = tstep tb (tsum tb s a) b := tsum_append tb s a [b]
structure IsTab (tb : Nat → Nat) (T : Array Value) : Prop where
  size : T.size = 256
  lt : ∀ i, tb i < 4294967296
  at_ : ∀ i, i < 256 → T[i]? = some (.int .u32 (tb i : Nat))
def sumN (tb : Nat → Nat) (l : List Int) : Nat := 4294967295 - tsum tb 4294967295 l

set_option maxHeartbeats 800000 in
theorem step_any (s b : Nat) (w : World) (hs : s < 4294967296) (hb : b < 256) :
    Calls Try.prog 80 #[.int .u32 s, .int .u8 b] w fun e w' => e = .returned (.int .u32 (stepN s b : Nat)) ∧ w' = w := by
  have hx : bits .xor .u32 (s : Int) (b : Int) = ((s ^^^ b : Nat) : Int) := u32_xor_nat s b hs (by omega)
  have hxl : s ^^^ b < 4294967296 := Nat.xor_lt_two_pow (n := 32) (by omega) (by omega)
  have HE : Hid (stepN s b = bits8 8 (s ^^^ b)) := rfl
  generalize s ^^^ b = x at *
  go_enter Try.func80, Try.ntmps80
  go_wp2
  go_loop [0, 10] (fun v0 v10 => ∃ k : Nat, k ≤ 8 ∧ v10 = .int .i64 k ∧ v0 = .int .u32 (bits8 k x : Nat)) (fun _ v10 => 8 - (intOf v10).toNat)
  case atStart => exact ⟨0, by omega, rfl, rfl⟩
  case round =>
    obtain ⟨k, hk, rfl, rfl⟩ := hrel
    have hyl : bits8 k x < 4294967296 := bits8_lt k hxl
    have HE2 : Hid (bitN (bits8 k x) = bits8 (k + 1) x) := rfl
    generalize hy : bits8 k x = y at *
    have HY := Lib.hid hy
    clear hy
    by_cases hlt : k < 8
    · have ha : bits .and .u32 (y : Int) 1 = (y : Int) % 2 := by
        have := u32_and_nat y 1 hyl (by omega)
        rw [Nat.and_one_is_mod] at this
        exact this
      have hm : bits .xor .u32 ((y : Int) / 2) ((y : Int) % 2 * 2197175160) = ((bitN y : Nat) : Int) := u32_xor_nat (y / 2) (y % 2 * 2197175160) (by omega) (by omega)
      go_wp2
      go_round
      case rel => exact ⟨k + 1, by omega, by go_num, by rw [← HE2.out]⟩
      case measure => simp [intOf]; omega
    · obtain rfl : k = 8 := by omega
      go_wp2
      go_ret
      exact ⟨ret_int (by rw [HE.out, HY.out]), rfl⟩

set_option maxRecDepth 100000 in
set_option maxHeartbeats 1000000 in
theorem sum_any' (tb : Nat → Nat) (T : Array Value) (A : Option Addr) (n c : Nat) (l : List (List Int)) (w : World) (hT : IsTab tb T) (hr0 : (Kd.slice 5 (Kd.int .u8)).C w A n l)
    (hb : ∀ p ∈ l, Bytes p) :
    Calls Try.prog 85 #[.agg T, .slice A n c] w fun e w' => e = .returned (.int .u32 (sumN tb l.flatten : Nat)) ∧ Below w.heap.size w w' := by
  obtain rfl := hr0.1
  have HR0 := Aside0.mk hr0
  have HT := Aside0.mk hT
  have HBY := Aside0.mk hb
  clear hr0 hT hb
  have hl : l.length ≤ 9223372036854775807 := HR0.out.2.1
  have HF : Aside0 (tsum tb 4294967295 l.flatten < 4294967296 ∧ sumN tb l.flatten = 4294967295 - tsum tb 4294967295 l.flatten) := ⟨tsum_lt HT.out.lt _ (by omega), rfl⟩
  go_enter Try.func85, Try.ntmps85
  go_wp2
  go_loopw [5, 12] (fun v5 v12 wr => ∃ k : Nat, k ≤ l.length ∧ v12 = .int .i64 k ∧ v5 = .int .u32 (tsum tb 4294967295 (l.take k).flatten : Nat) ∧ Aside0 (Below (w.heap.size + 1) (w.alloc (Obj.cells T 118)) wr)) (fun _ v12 _ => l.length - (intOf v12).toNat)
  case atStart => exact ⟨0, by omega, rfl, rfl, ⟨Below.refl _ _⟩⟩
  case round =>
    obtain ⟨k, hk, rfl, rfl, HBT⟩ := hrel
    by_cases hlt : k < l.length
    · obtain ⟨ad, A0, c0, rfl, hcell, hl0, hC⟩ := row_at HR0.out k hlt
      have HW := Aside0.mk ((below_alloc (Below.refl w.heap.size w) _).trans (HBT.out.mono (by omega)))
      replace hcell := pw_cell_below HW.out hcell
      have HM := Aside0.mk (HBY.out l[k] (List.getElem_mem hlt))
      have HE : Hid ((l.take (k + 1)).flatten = (l.take k).flatten ++ l[k]) := by show _ = _; rw [take_snoc hlt, List.flatten_append]; simp
      generalize l[k] = p at *
      have HC := Aside0.mk hC
      clear hC
      have hpl : p.length ≤ 9223372036854775807 := HC.out.2.1
      have HS0 : Aside0 (tsum tb 4294967295 (l.take k).flatten < 4294967296) := ⟨tsum_lt HT.out.lt _ (by omega)⟩
      generalize hs0 : tsum tb 4294967295 (List.take k l).flatten = s0 at *
      have Hs0 := Lib.hid hs0
      clear hs0
      go_wp2
      go_loop [5, 18] (fun v5 v18 => ∃ j : Nat, j ≤ p.length ∧ v18 = .int .i64 j ∧ v5 = .int .u32 (tsum tb s0 (p.take j) : Nat)) (fun _ v18 => p.length - (intOf v18).toNat)
      case atStart => exact ⟨0, by omega, rfl, rfl⟩
      case round =>
        obtain ⟨j, hj, rfl, rfl⟩ := hrel
        by_cases hjl : j < p.length
        · obtain ⟨ad1, rfl, hc1⟩ := int_at HC.out j hjl
          replace hc1 := pw_cell_below HW.out hc1
          obtain ⟨bn, hbe, hbn⟩ := HM.out.nat hjl
          rw [hbe] at hc1
          have HE : Hid (tsum tb s0 (p.take (j + 1)) = tstep tb (tsum tb s0 (p.take j)) bn) := by rw [take_snoc hjl, tsum_snoc, hbe]; rfl
          clear hbe
          have hs1 : tsum tb s0 (p.take j) < 4294967296 := tsum_lt HT.out.lt _ HS0.out
          generalize tsum tb s0 (p.take j) = s1 at *
          have hx : bits .xor .u8 ((s1 : Int) % 256) (bn : Int) = ((s1 % 256 ^^^ bn : Nat) : Int) := u8_xor_nat (s1 % 256) bn (by omega) hbn
          have hxl : s1 % 256 ^^^ bn < 256 := Nat.xor_lt_two_pow (n := 8) (by omega) hbn
          have hTc : wr.cell? ⟨w.heap.size, s1 % 256 ^^^ bn, none⟩ = some (.int .u32 (tb (s1 % 256 ^^^ bn) : Nat)) := by
            rw [HBT.out.cell (by simp), World.cell?_alloc_at _ _ _ _ rfl]; exact HT.out.at_ _ hxl
          have htl := HT.out.lt (s1 % 256 ^^^ bn)
          have hy : bits .xor .u32 ((s1 : Int) / 256) (tb (s1 % 256 ^^^ bn) : Int) = ((s1 / 256 ^^^ tb (s1 % 256 ^^^ bn) : Nat) : Int) := u32_xor_nat (s1 / 256) (tb (s1 % 256 ^^^ bn)) (by omega) htl
          have HE2 : Hid (tstep tb s1 bn = s1 / 256 ^^^ tb (s1 % 256 ^^^ bn)) := by unfold tstep; rw [Int.toNat_natCast]; rfl
          generalize s1 % 256 ^^^ bn = ix at *
          generalize tb ix = tx at *
          go_wp2
          go_round
          case rel => exact ⟨j + 1, by omega, by go_num, by rw [HE.out, HE2.out]⟩
          case measure => simp [intOf]; omega
        · obtain rfl : j = p.length := by omega
          have HE2 : Hid (tsum tb s0 (p.take p.length) = tsum tb 4294967295 (l.take (k + 1)).flatten) := by
            rw [HE.out, tsum_append, Hs0.out, List.take_length]; rfl
          go_wp2
          go_roundw
          case rel => exact ⟨k + 1, by omega, by go_num, by rw [HE2.out], HBT⟩
          case measure => simp [intOf]; omega
    · obtain rfl : k = l.length := by omega
      rw [List.take_length] at *
      go_wp2
      go_ret
      exact ⟨ret_int (by rw [HF.out.2]; exact u32_flip HF.out.1), (below_alloc (Below.refl w.heap.size w) _).trans (HBT.out.mono (by omega))⟩

end Go.Proofs.Yticpjidcgaaldaa

namespace Go.Proofs.Yticpjidcgaaldaa
open Go.RowKit Go.Proofs.YticpjidcgaaldaaW.PrintWords Go.Proofs.YticpjidcgaaldaaW.PrintLast Go.Proofs.YticpjidcgaaldaaW.PrintMore
set_option linter.unusedVariables false
set_option linter.unusedSimpArgs false

def tailC (n : Nat) : Array Value := #[.int .u8 ((n : Int) % 256), .int .u8 ((n : Int) / 256 % 256), .int .u8 ((n : Int) / 65536 % 256), .int .u8 ((n : Int) / 16777216)]
def tailL (n : Nat) : List Int := [(n : Int) % 256, (n : Int) / 256 % 256, (n : Int) / 65536 % 256, (n : Int) / 16777216]
theorem tailC_one (n : Nat) : (tailC n).all (fun x => x.oneCell') = true := by simp [tailC, Value.oneCell']
def tailV (n : Nat) : Value := .agg (tailC n)
set_option maxRecDepth 100000 in
set_option maxHeartbeats 1000000 in
theorem tail_any (tb : Nat → Nat) (T : Array Value) (A : Option Addr) (n c : Nat) (l : List Int) (w : World) (hT : IsTab tb T) (hr0 : (Kd.int .u8).C w A n l) (hc : n ≤ c) (hb : Bytes l) :
    Calls Try.prog 81 #[.agg T, .slice A n c] w fun e w' => e = .returned (tailV (sumN tb l)) ∧ Below w.heap.size w w' := by
  have HR0 := Aside0.mk hr0
  have HT := Aside0.mk hT
  have HBY := Aside0.mk hb
  clear hr0 hT hb
  go_enter Try.func81, Try.ntmps81
  have hsz : (Try.prog.info? 118).map (·.size) = some T.size := by rw [HT.out.size]; kernel_rfl
  have Hsz := Aside0.mk hsz
  clear hsz
  go_wp2_with (first | (refine wpList_load_row rfl 118 (.tmp 2) rfl w.heap.size rfl 118 T (0, 0) _ (heap_alloc2_old _ _ _) Try.underlying118 rfl Hsz.out ?_))
  refine (sum_any' tb T _ _ _ [l] _ HT.out (C_one_row (by simp) (Kd.C_alloc (Kd.C_alloc HR0.out _) _) hc) (by intro p hp; rw [List.mem_singleton.1 hp]; exact HBY.out)).mono ?_
  rintro e w1 ⟨rfl, hb1⟩
  have HB1 := Aside0.mk (below_step (below_alloc (below_alloc (below_alloc (Below.refl w.heap.size w) _) _) _) hb1)
  have hg1 : w1.heap[w.heap.size + 1]? = some (.cells #[.int .u8 0, .int .u8 0, .int .u8 0, .int .u8 0] 136 (0, 0)) := by
    rw [hb1.block _ (by simp), heap_alloc_old _ _ (by simp), heap_alloc2_new]
  clear hb1
  have hN : ([l].flatten) = l := by simp
  rw [hN]
  have hnl : sumN tb l < 4294967296 := by unfold sumN; omega
  generalize hm : sumN tb l = m at *
  have HM := Lib.hid hm
  clear hm
  have hi4 : (Try.prog.info? 136).map (·.size) = some 4 := by kernel_rfl
  have Hg1 := Aside0.mk hg1
  have Hi4 := Aside0.mk hi4
  clear hg1 hi4
  go_wp2_with (first | (refine wpList_store_row rfl 136 (.tmp 4) (.tmp 21) rfl (w.heap.size + 1) (tailC m) rfl rfl 136 #[.int .u8 0, .int .u8 0, .int .u8 0, .int .u8 0] Hg1.out Hi4.out rfl (tailC_one m) ?_))
  refine bodyPost_ret (v := tailV m) (results_cell_row Try.results81 _ _ (w.heap.size + 1) 136 (tailC m) (0, 0) _ rfl (setRow_heap _ _ _ _ _ _ Hg1.out) Try.underlying136 rfl Hi4.out) rfl ⟨by rw [HM.out], ?_⟩
  exact below_setRow HB1.out (by omega) _

set_option maxRecDepth 100000 in
set_option maxHeartbeats 1000000 in
theorem seal_any (tb : Nat → Nat) (T : Array Value) (A : Option Addr) (n c : Nat) (l : List Int) (w : World) (hT : IsTab tb T) (hr0 : (Kd.int .u8).C w A n l) (hc : n ≤ c) (hb : Bytes l) (hn : n ≤ 140737488351232) :
    Calls Try.prog 62 #[.agg T, .slice A n c] w fun e w' => ∃ v, e = .returned v ∧ (Kd.int .u8).R 5 w' w.heap.size (fun _ => True) v (l ++ tailL (sumN tb l)) ∧ Below w.heap.size w w' := by
  have HR0 := Aside0.mk hr0
  have HT := Aside0.mk hT
  have HBY := Aside0.mk hb
  clear hr0 hT hb
  have Hsz : Aside0 ((Try.prog.info? 118).map (·.size) = some T.size) := ⟨by rw [HT.out.size]; kernel_rfl⟩
  have Hi4 : Aside0 ((Try.prog.info? 136).map (·.size) = some 4) := ⟨by kernel_rfl⟩
  go_enter Try.func62, Try.ntmps62
  go_wp2_with (first | (refine wpList_load_row rfl 118 (.tmp 2) rfl w.heap.size rfl 118 T (0, 0) _ (heap_alloc_new _ _) Try.underlying118 rfl Hsz.out ?_))
  refine (tail_any tb T _ _ _ l _ HT.out (Kd.C_alloc HR0.out _) hc HBY.out).mono ?_
  rintro e w1 ⟨rfl, hb1⟩
  have HB1 := Aside0.mk (below_step (below_alloc (Below.refl w.heap.size w) _) hb1)
  clear hb1
  go_wp2_with (first | (refine wpList_store_row rfl 136 (.tmp 5) (.tmp 8) rfl w1.heap.size (tailC (sumN tb l)) rfl rfl 136 #[.int .u8 0, .int .u8 0, .int .u8 0, .int .u8 0] (heap_alloc_new _ _) Hi4.out rfl (tailC_one _) ?_))
  obtain ⟨W, hW⟩ : ∃ W, W = (w1.alloc (Obj.cells #[Value.int IntKind.u8 0, Value.int IntKind.u8 0, Value.int IntKind.u8 0, Value.int IntKind.u8 0] 136)).setRow w1.heap.size (tailC (sumN tb l)) := ⟨_, rfl⟩
  rw [← hW]
  have HBW : Aside0 (Below w.heap.size w W) := ⟨by rw [hW]; exact below_setRow (below_alloc HB1.out _) HB1.out.size _⟩
  have hg : W.heap[w1.heap.size]? = some (.cells (tailC (sumN tb l)) 136 (0, 0)) := by rw [hW]; exact setRow_heap _ _ _ _ _ _ (heap_alloc_new _ _)
  have HC4 : Aside0 ((Kd.int .u8).C W (some ⟨w1.heap.size, 0, none⟩) 4 (tailL (sumN tb l))) := ⟨C_of_block hg (by simp [tailC, tailL])⟩
  have hg1 : w1.heap.size < W.heap.size := blk_lt hg
  have HRW := Aside0.mk (Kd.C_below HR0.out HBW.out)
  clear hW hg HB1
  generalize w1.heap.size = g at *
  go_frame
  go_region_law (first | (refine R_app_step .u8 (w0 := w) w.heap.size rfl (.tmp 10) (.tmp 11) 23 5 1 rfl Try.underlying23 wx_info5 (by decide) _ l (tailL (sumN tb l)) (some ⟨g, 0, none⟩) 4 4 (fun _ => True) rfl rfl ?aO ?aR (fun _ _ => trivial) ?aB ?aS ?aL ?_; (case aO => exact Kd.R_lower ho2 HBW.out.size); (case aR => exact Kd.C_below (Kd.C_drew HC4.out) hb2); (case aB => exact below_step HBW.out.drew hb2); (case aS => exact (below_step HBW.out.drew hb2).size); (case aL => have := HR0.out.1; omega); intro v3 w3 ho3 hb3 _ _) | (go_simp; go_at_call 71; refine (clone_any _ _ _ l _ ?cR hn).mono ?_; (case cR => exact Kd.C_drew HRW.out); rintro e w2 ⟨v2, rfl, ho2, hb2⟩))
  go_wp2
  go_ret
  exact ⟨_, rfl, ho3, hb3⟩

end Go.Proofs.Yticpjidcgaaldaa

namespace Go.Proofs.Yticpjidcgaaldaa
open Go.RowKit Go.Proofs.YticpjidcgaaldaaW.PrintWords Go.Proofs.YticpjidcgaaldaaW.PrintLast Go.Proofs.YticpjidcgaaldaaW.PrintMore
set_option linter.unusedVariables false
set_option linter.unusedSimpArgs false

theorem all_range_ints : ∀ (xs ys : List Int), xs.length = ys.length → ((List.range xs.length).all fun i => xs.getD i 0 == ys.getD i 0) = decide (xs = ys)
  | [], [], _ => by simp
  | x :: xs, y :: ys, h => by
    have ih := all_range_ints xs ys (by simpa using h)
    rw [List.length_cons, List.range_succ_eq_map, List.all_cons, List.all_map]
    simp only [List.getD_cons_zero, Function.comp_def, List.getD_cons_succ, ih]
    rw [Bool.eq_iff_iff]
    simp
  | [], _ :: _, h => by simp at h
  | _ :: _, [], h => by simp at h
theorem run_equalIn_ints {P : Program} (w : World) (d : Nat) (k : IntKind) (t e : TypeId) (n : Nat) (ht : P.underlying t = some (.array n e)) (he : P.underlying e = some (.int k)) (hsz : ∀ w, (sizeOf e).run P w = .ok 1 w)
    (xs ys : List Int) (hx : xs.length = n) (hy : ys.length = n) :
    (Op.equalIn (d + 2) t (.agg (xs.map (Value.int k)).toArray) (.agg (ys.map (Value.int k)).toArray)).run P w = .ok (decide (xs = ys)) w := by
  rw [← all_range_ints xs ys (hx.trans hy.symm), hx, List.range_eq_range', Op.equalIn]
  simp only [Sem.run_bind, run_underlying ht, Result.andThen_ok, hsz, Std.Legacy.Range.forIn_eq_forIn_range', Std.Legacy.Range.size, Nat.sub_zero, Nat.add_sub_cancel, Nat.div_one]
  have hl : ∀ i ∈ List.range' 0 n 1, i < n := fun i hi => by simpa using (List.mem_range'_1.1 hi).2
  generalize List.range' 0 n 1 = l at hl ⊢
  induction l with
  | nil => simp
  | cons i l ih =>
    have hi : i < n := hl i (by simp)
    have px : (part e (xs.map (Value.int k)).toArray (i * 1)).run P w = .ok (.int k (xs.getD i 0)) w := by
      simp [part, isAgg, run_underlying he, List.getD, List.getElem?_eq_getElem (show i < xs.length by omega)]
    have py : (part e (ys.map (Value.int k)).toArray (i * 1)).run P w = .ok (.int k (ys.getD i 0)) w := by
      simp [part, isAgg, run_underlying he, List.getD, List.getElem?_eq_getElem (show i < ys.length by omega)]
    have pe : (Op.equalIn (d + 1) e (.int k (xs.getD i 0)) (.int k (ys.getD i 0))).run P w = .ok (xs.getD i 0 == ys.getD i 0) w := run_equalIn_int w d e k k _ _ he
    simp only [List.forIn_cons, Sem.run_bind, px, py, pe, Result.andThen_ok, List.all_cons]
    cases hb : (xs.getD i 0 == ys.getD i 0)
    · simp
    · simp only [Bool.not_true, Bool.false_eq_true, if_false, Sem.run_pure, Result.andThen_ok, Bool.true_and]
      exact ih fun j hj => hl j (by simp [hj])

set_option maxRecDepth 100000 in
set_option maxHeartbeats 1000000 in
theorem open_short (T : Array Value) (A : Option Addr) (n c : Nat) (w : World) (hn : n < 4) :
    Calls Try.prog 63 #[.agg T, .slice A n c] w fun e w' => e = .returned (.tuple #[.slice none 0 0, .int .i64 2]) ∧ Below w.heap.size w w' := by
  go_enter Try.func63, Try.ntmps63
  go_wp2
  go_ret2
  exact ⟨rfl, below_alloc (Below.refl _ _) _⟩

set_option maxRecDepth 100000 in
set_option maxHeartbeats 2000000 in
theorem open_long (β : Bool) (tb : Nat → Nat) (T : Array Value) (A : Option Addr) (n c : Nat) (l : List Int) (w : World) (hT : IsTab tb T) (hr0 : (Kd.int .u8).C w A n l) (hc : n ≤ c) (hb : Bytes l) (hn4 : 4 ≤ n) (hnr : n ≤ 140737488351232) (hq : decide (l.drop (n - 4) = tailL (sumN tb (l.take (n - 4)))) = β) :
    Calls Try.prog 63 #[.agg T, .slice A n c] w fun e w' => ∃ v, e = .returned (.tuple #[v, .int .i64 (if β then 0 else 5)]) ∧ (Kd.int .u8).R 5 w' w.heap.size (fun _ => True) v (if β then l.take (n - 4) else []) ∧ Below w.heap.size w w' := by
  have HR0 := Aside0.mk hr0
  have HT := Aside0.mk hT
  have hnm := hr0.2.1
  have hln := hr0.1
  clear hT
  have Hsz : Aside0 ((Try.prog.info? 118).map (·.size) = some T.size) := ⟨by rw [HT.out.size]; kernel_rfl⟩
  obtain ⟨k, rfl⟩ : ∃ k, n = k + 4 := ⟨n - 4, by omega⟩
  rw [show k + 4 - 4 = k by omega] at *
  obtain ⟨A1, hq1, hC1⟩ := cut_lo (P := Try.prog) .u8 .i64 23 5 1 Try.underlying23 wx_info5 A (k + 4) c k (by omega) hc
  obtain ⟨hq2, hC2⟩ := cut_hi (P := Try.prog) .u8 .i64 23 5 1 Try.underlying23 wx_info5 A (k + 4) c k (by omega) hc
  have HC1 := Aside0.mk (hC1 w l hr0)
  have HC2 := Aside0.mk (hC2 w l hr0)
  rw [show k + 4 - k = 4 by omega] at HC1 hq1
  have hdl : (l.drop k).length = 4 := HC1.out.1
  obtain ⟨x0, x1, x2, x3, hx⟩ : ∃ x0 x1 x2 x3, l.drop k = [x0, x1, x2, x3] := by
    match h : l.drop k, hdl with
    | [a, b, c, d], _ => exact ⟨a, b, c, d, rfl⟩
  rw [hx] at HC1 hq
  obtain ⟨ad, rfl, h0⟩ := int_at HC1.out 0 (by simp)
  obtain ⟨ad', e1, h1⟩ := int_at HC1.out 1 (by simp)
  cases e1
  obtain ⟨ad', e1, h2⟩ := int_at HC1.out 2 (by simp)
  cases e1
  obtain ⟨ad', e1, h3⟩ := int_at HC1.out 3 (by simp)
  cases e1
  simp only [List.getElem_cons_zero, List.getElem_cons_succ] at h0 h1 h2 h3
  have ha1 : ad.add 0 = ad := rfl
  have ha2 : ∀ i, 0 < i → ad.add i = ⟨ad.block, ad.off + i, none⟩ := fun i hi => by unfold Addr.add; rw [if_neg (by omega)]
  rw [ha1] at h0
  rw [ha2 _ (by omega)] at h1 h2 h3
  clear ha1 ha2
  have HX := Aside0.mk (And.intro h0 (And.intro h1 (And.intro h2 h3)))
  have HBT := Aside0.mk (hb.take k)
  have hml : sumN tb (l.take k) < 4294967296 := by unfold sumN; omega
  generalize hm : sumN tb (l.take k) = m at *
  have HMM := Lib.hid hm
  clear hm
  clear hr0 hC1 hC2 hb hx h0 h1 h2 h3
  have HQ : Aside0 (decide ([x0, x1, x2, x3] = tailL m) = β) := ⟨hq⟩
  clear hq
  have harr : ∀ (W : World) (c : Nat), (Instr.arrayAt 136 (.slice (some ad) 4 c)).run Try.prog W = .ok (.pointer (some ad)) W := fun W c => run_arrayAt W _ _ 4 _ _ _ Try.underlying136 (Nat.le_refl _)
  have h5 : ∀ w, (sizeOf 5).run Try.prog w = .ok 1 w := fun w => by kernel_rfl
  go_enter Try.func63, Try.ntmps63
  go_wp2
  obtain ⟨W, hW⟩ : ∃ W, W = w.alloc (Obj.cells T 118) := ⟨_, rfl⟩
  rw [← hW]
  have HBW := Aside0.mk (show Below w.heap.size w W from by rw [hW]; exact below_alloc (Below.refl _ _) _)
  have HGW := Aside0.mk (show W.heap[w.heap.size]? = some (.cells T 118 (0, 0)) from by rw [hW]; exact heap_alloc_new _ _)
  have HC2W := Aside0.mk (Kd.C_below HC2.out HBW.out)
  clear hW
  generalize w.heap.size = g at HGW ⊢
  try go_frame
  refine region_grown (W := W)
    [fun (w : World) (v : Value) => v = .slice A (k + 4) c,
     fun (w : World) (v : Value) => v = .int .i64 k,
     fun (w : World) (v : Value) => v = .slice (some ad) 4 (c - k),
     fun (w : World) (v : Value) => v = .pointer (some ad),
     fun (w : World) (v : Value) => v = .agg #[.int .u8 x0, .int .u8 x1, .int .u8 x2, .int .u8 x3],
     fun (w : World) (v : Value) => v = .agg T,
     fun (w : World) (v : Value) => v = .slice A (k + 4) c,
     fun (w : World) (v : Value) => v = .int .i64 k,
     fun (w : World) (v : Value) => v = .slice A k c,
     fun (w : World) (v : Value) => v = tailV m,
     fun (w : World) (v : Value) => v = .bool (!β)]
    (fun j =>  none)
    [(0, some 12), (1, some 13), (2, some 14), (3, some 15), (4, some 16), (5, some 17), (6, some 18), (7, some 19), (8, some 20), (9, some 21), (10, some 22)]
    []
    (by kernel_rfl) (by kernel_rfl) (by kernel_rfl) (by kernel_rfl) ?r4_1g ?r4_1s ⟨?r4_1o0, ?r4_1o1, ?r4_1o2, ?r4_1o3, ?r4_1o4, ?r4_1o5, ?r4_1o6, ?r4_1o7, ?r4_1o8, ?r4_1o9, ?r4_1o10, trivial⟩ ?r4_1e
  case r4_1g =>
    intro j hj; cases hj
  case r4_1s =>
    refine ⟨(fun w w' v hb h => h), (fun w w' v hb h => h), (fun w w' v hb h => h), (fun w w' v hb h => h), (fun w w' v hb h => h), (fun w w' v hb h => h), (fun w w' v hb h => h), (fun w w' v hb h => h), (fun w w' v hb h => h), (fun w w' v hb h => h), (fun w w' v hb h => h), trivial⟩
  case r4_1o0 =>
    intro vs w hb hV
    rw [if_pos (by kernel_rfl)]
    generalize hρ : rho _ _ _ vs = ρ
    have e1 : ρ (.tmp 1) = .slice A (k + 4) c := by rw [← hρ]; kernel_rfl
    clear hρ hV
    refine runs_val (v := .slice A (k + 4) c) (w' := w) ?_ ⟨Below.refl _ _, rfl⟩
    go_simp <;> (first | exact IntWalk.u64_in _ (by omega) | exact IntWalk.u32_in _ (by omega) | exact IntWalk.u16_in _ (by omega) | exact IntWalk.u8_in _ (by omega) | exact IntWalk.i64_in _ (by omega) | skip)
  case r4_1o1 =>
    intro vs w hb hV
    rw [if_pos (by kernel_rfl)]
    generalize hρ : rho _ _ _ vs = ρ
    have e6 : ρ (.tmp 6) = .int .i64 k := by rw [← hρ]; kernel_rfl
    clear hρ hV
    refine runs_val (v := .int .i64 k) (w' := w) ?_ ⟨Below.refl _ _, rfl⟩
    go_simp <;> (first | exact IntWalk.u64_in _ (by omega) | exact IntWalk.u32_in _ (by omega) | exact IntWalk.u16_in _ (by omega) | exact IntWalk.u8_in _ (by omega) | exact IntWalk.i64_in _ (by omega) | skip)
  case r4_1o2 =>
    intro vs w hb hV
    rw [if_pos (by kernel_rfl)]
    generalize hρ : rho _ _ _ vs = ρ
    have d12 : (vs 0) = .slice A (k + 4) c := hV 0 (by kernel_rfl)
    have e12 : ρ (.tmp 12) = vs 0 := by rw [← hρ]; kernel_rfl
    rw [d12] at e12; clear d12
    have d13 : (vs 1) = .int .i64 k := hV 1 (by kernel_rfl)
    have e13 : ρ (.tmp 13) = vs 1 := by rw [← hρ]; kernel_rfl
    rw [d13] at e13; clear d13
    clear hρ hV
    refine runs_val (v := .slice (some ad) 4 (c - k)) (w' := w) ?_ ⟨Below.refl _ _, rfl⟩
    go_simp <;> (first | exact IntWalk.u64_in _ (by omega) | exact IntWalk.u32_in _ (by omega) | exact IntWalk.u16_in _ (by omega) | exact IntWalk.u8_in _ (by omega) | exact IntWalk.i64_in _ (by omega) | skip)
  case r4_1o3 =>
    intro vs w hb hV
    rw [if_pos (by kernel_rfl)]
    generalize hρ : rho _ _ _ vs = ρ
    have d14 : (vs 2) = .slice (some ad) 4 (c - k) := hV 2 (by kernel_rfl)
    have e14 : ρ (.tmp 14) = vs 2 := by rw [← hρ]; kernel_rfl
    rw [d14] at e14; clear d14
    clear hρ hV
    refine runs_val (v := .pointer (some ad)) (w' := w) ?_ ⟨Below.refl _ _, rfl⟩
    go_simp <;> (first | exact IntWalk.u64_in _ (by omega) | exact IntWalk.u32_in _ (by omega) | exact IntWalk.u16_in _ (by omega) | exact IntWalk.u8_in _ (by omega) | exact IntWalk.i64_in _ (by omega) | skip)
  case r4_1o4 =>
    intro vs w hb hV
    rw [if_pos (by kernel_rfl)]
    generalize hρ : rho _ _ _ vs = ρ
    have d15 : (vs 3) = .pointer (some ad) := hV 3 (by kernel_rfl)
    have e15 : ρ (.tmp 15) = vs 3 := by rw [← hρ]; kernel_rfl
    rw [d15] at e15; clear d15
    clear hρ hV
    have hbw := below_step HBW.out hb
    have g0 := pw_cell_below hbw HX.out.1
    have g1 := pw_cell_below hbw HX.out.2.1
    have g2 := pw_cell_below hbw HX.out.2.2.1
    have g3 := pw_cell_below hbw HX.out.2.2.2
    refine runs_val (v := .agg #[.int .u8 x0, .int .u8 x1, .int .u8 x2, .int .u8 x3]) (w' := w) ?_ ⟨Below.refl _ _, rfl⟩
    go_simp
  case r4_1o5 =>
    intro vs w hb hV
    rw [if_pos (by kernel_rfl)]
    generalize hρ : rho _ _ _ vs = ρ
    have e2 : ρ (.tmp 2) = .pointer (some ⟨g, 0, none⟩) := by rw [← hρ]; kernel_rfl
    clear hρ hV
    exact runs_load 118 (.tmp 2) rfl g e2 118 T (0, 0) _ ((hb.block g (blk_lt HGW.out)).trans HGW.out) Try.underlying118 rfl Hsz.out ⟨Below.refl _ _, rfl⟩
  case r4_1o6 =>
    intro vs w hb hV
    rw [if_pos (by kernel_rfl)]
    generalize hρ : rho _ _ _ vs = ρ
    have e1 : ρ (.tmp 1) = .slice A (k + 4) c := by rw [← hρ]; kernel_rfl
    clear hρ hV
    refine runs_val (v := .slice A (k + 4) c) (w' := w) ?_ ⟨Below.refl _ _, rfl⟩
    go_simp <;> (first | exact IntWalk.u64_in _ (by omega) | exact IntWalk.u32_in _ (by omega) | exact IntWalk.u16_in _ (by omega) | exact IntWalk.u8_in _ (by omega) | exact IntWalk.i64_in _ (by omega) | skip)
  case r4_1o7 =>
    intro vs w hb hV
    rw [if_pos (by kernel_rfl)]
    generalize hρ : rho _ _ _ vs = ρ
    have e6 : ρ (.tmp 6) = .int .i64 k := by rw [← hρ]; kernel_rfl
    clear hρ hV
    refine runs_val (v := .int .i64 k) (w' := w) ?_ ⟨Below.refl _ _, rfl⟩
    go_simp <;> (first | exact IntWalk.u64_in _ (by omega) | exact IntWalk.u32_in _ (by omega) | exact IntWalk.u16_in _ (by omega) | exact IntWalk.u8_in _ (by omega) | exact IntWalk.i64_in _ (by omega) | skip)
  case r4_1o8 =>
    intro vs w hb hV
    rw [if_pos (by kernel_rfl)]
    generalize hρ : rho _ _ _ vs = ρ
    have d18 : (vs 6) = .slice A (k + 4) c := hV 6 (by kernel_rfl)
    have e18 : ρ (.tmp 18) = vs 6 := by rw [← hρ]; kernel_rfl
    rw [d18] at e18; clear d18
    have d19 : (vs 7) = .int .i64 k := hV 7 (by kernel_rfl)
    have e19 : ρ (.tmp 19) = vs 7 := by rw [← hρ]; kernel_rfl
    rw [d19] at e19; clear d19
    clear hρ hV
    refine runs_val (v := .slice A k c) (w' := w) ?_ ⟨Below.refl _ _, rfl⟩
    go_simp <;> (first | exact IntWalk.u64_in _ (by omega) | exact IntWalk.u32_in _ (by omega) | exact IntWalk.u16_in _ (by omega) | exact IntWalk.u8_in _ (by omega) | exact IntWalk.i64_in _ (by omega) | skip)
  case r4_1o9 =>
    intro vs w hb hV
    rw [if_pos (by kernel_rfl)]
    generalize hρ : rho _ _ _ vs = ρ
    have d17 : (vs 5) = .agg T := hV 5 (by kernel_rfl)
    have e17 : ρ (.tmp 17) = vs 5 := by rw [← hρ]; kernel_rfl
    rw [d17] at e17; clear d17
    have d20 : (vs 8) = .slice A k c := hV 8 (by kernel_rfl)
    have e20 : ρ (.tmp 20) = vs 8 := by rw [← hρ]; kernel_rfl
    rw [d20] at e20; clear d20
    have ef81 : ρ (.func 81) = .func (.func 81) #[] #[] := by rw [← hρ]; rfl
    clear hρ hV
    refine runs_call (f := 81) (args := #[.agg T, .slice A k c]) (w' := w) ?_ ?_
    · go_simp
    · refine (tail_any tb T _ _ _ (l.take k) _ HT.out (Kd.C_below HC2W.out hb) (by omega) HBT.out).mono ?_
      rintro e w5 ⟨rfl, hb5⟩
      exact ⟨_, by rw [HMM.out], hb5, rfl⟩
  case r4_1o10 =>
    intro vs w hb hV
    rw [if_pos (by kernel_rfl)]
    generalize hρ : rho _ _ _ vs = ρ
    have d16 : (vs 4) = .agg #[.int .u8 x0, .int .u8 x1, .int .u8 x2, .int .u8 x3] := hV 4 (by kernel_rfl)
    have e16 : ρ (.tmp 16) = vs 4 := by rw [← hρ]; kernel_rfl
    rw [d16] at e16; clear d16
    have d21 : (vs 9) = tailV m := hV 9 (by kernel_rfl)
    have e21 : ρ (.tmp 21) = vs 9 := by rw [← hρ]; kernel_rfl
    rw [d21] at e21; clear d21
    clear hρ hV
    refine runs_val (v := .bool (!β)) (w' := w) ?_ ⟨Below.refl _ _, rfl⟩
    have heq := run_equalIn_ints (P := Try.prog) w 9998 .u8 136 5 4 Try.underlying136 Try.underlying5 h5 [x0, x1, x2, x3] (tailL m) rfl rfl
    rw [HQ.out] at heq
    have e16' : ρ (.tmp 16) = .agg (([x0, x1, x2, x3]).map (Value.int .u8)).toArray := e16
    have e21' : ρ (.tmp 21) = .agg ((tailL m).map (Value.int .u8)).toArray := e21
    clear e16 e21
    generalize (([x0, x1, x2, x3]).map (Value.int .u8)).toArray = y1 at *
    generalize ((tailL m).map (Value.int .u8)).toArray = y2 at *
    go_simp
  case r4_1e =>
    intro vs W2 hb2 hV
    have d12 : (vs 0) = .slice A (k + 4) c := hV 0 (Nat.le_of_ble_eq_true rfl)
    have d13 : (vs 1) = .int .i64 k := hV 1 (Nat.le_of_ble_eq_true rfl)
    have d14 : (vs 2) = .slice (some ad) 4 (c - k) := hV 2 (Nat.le_of_ble_eq_true rfl)
    have d15 : (vs 3) = .pointer (some ad) := hV 3 (Nat.le_of_ble_eq_true rfl)
    have d16 : (vs 4) = .agg #[.int .u8 x0, .int .u8 x1, .int .u8 x2, .int .u8 x3] := hV 4 (Nat.le_of_ble_eq_true rfl)
    have d17 : (vs 5) = .agg T := hV 5 (Nat.le_of_ble_eq_true rfl)
    have d18 : (vs 6) = .slice A (k + 4) c := hV 6 (Nat.le_of_ble_eq_true rfl)
    have d19 : (vs 7) = .int .i64 k := hV 7 (Nat.le_of_ble_eq_true rfl)
    have d20 : (vs 8) = .slice A k c := hV 8 (Nat.le_of_ble_eq_true rfl)
    have d21 : (vs 9) = tailV m := hV 9 (Nat.le_of_ble_eq_true rfl)
    have d22 : (vs 10) = .bool (!β) := hV 10 (Nat.le_of_ble_eq_true rfl)
    clear hV
    simp only [putAll]
    rw [d12, d13, d14, d15, d16, d17, d18, d19, d20, d21, d22]
    clear d12 d13 d14 d15 d16 d17 d18 d19 d20 d21 d22
    clear vs
    simp only [Act.put, List.setIfInBounds_toArray, List.set_cons_zero, List.set_cons_succ]
    have HB2 := Aside0.mk (below_step HBW.out hb2)
    have HC3 := Aside0.mk (Kd.C_below HC2W.out hb2)
    clear hb2 HBW HC2W HGW
    cases β with
    | false =>
      go_wp2
      go_ret2
      exact ⟨_, rfl, Kd.R_nil _ _ _ _ _, HB2.out⟩
    | true =>
      go_wp2_with fail
      refine (clone_any _ _ _ (l.take k) _ HC3.out (by omega)).mono ?_
      rintro e w5 ⟨v5, rfl, ho5, hb5⟩
      have HO5 := Aside0.mk (Kd.R_lower ho5 HB2.out.size)
      have HB5 := Aside0.mk (below_step HB2.out hb5)
      clear ho5 hb5
      go_wp2
      go_ret2
      exact ⟨_, rfl, HO5.out, HB5.out⟩

end Go.Proofs.Yticpjidcgaaldaa

namespace Go.Proofs.Yticpjidcgaaldaa
open Go.RowKit Go.Proofs.YticpjidcgaaldaaW.PrintWords Go.Proofs.YticpjidcgaaldaaW.PrintLast Go.Proofs.YticpjidcgaaldaaW.PrintMore
set_option linter.unusedVariables false
set_option linter.unusedSimpArgs false

def tab (i : Nat) : Nat := stepN 0 (i % 256)
theorem tab_lt (i : Nat) : tab i < 4294967296 := bits8_lt 8 (Nat.xor_lt_two_pow (n := 32) (by omega) (by omega))
theorem tab_at {i : Nat} (h : i < 256) : stepN 0 i = tab i := by unfold tab; rw [Nat.mod_eq_of_lt h]
def Z256 : Array Value := Array.replicate 256 (.int .u32 0)
theorem zero_table (w : World) : (zeroValue 118).run Try.prog w = .ok (.agg Z256) w := by kernel_rfl
theorem Z256_size : Z256.size = 256 := by simp [Z256]
set_option maxRecDepth 100000 in
set_option maxHeartbeats 1000000 in
theorem make_any (w : World) :
    Calls Try.prog 61 #[] w fun e w' => ∃ T, e = .returned (.agg T) ∧ IsTab tab T ∧ Below w.heap.size w w' := by
  have hz := zero_table
  go_enter Try.func61, Try.ntmps61
  go_wp2_with fail
  have HB0 := Aside0.mk (below_alloc (below_alloc (Below.refl w.heap.size w) (Obj.cells Z256 118)) (Obj.cells Z256 118))
  clear hz
  go_loopw [3] (fun v3 wr => ∃ (k : Nat) (cs : Array Value), k ≤ 256 ∧ v3 = .int .i64 k ∧ Aside0 (wr.heap[w.heap.size + 1]? = some (.cells cs 118 (0, 0)) ∧ cs.size = 256 ∧ (∀ i, i < k → cs[i]? = some (.int .u32 (tab i : Nat))) ∧ wr.heap[w.heap.size]? = some (.cells Z256 118 (0, 0)) ∧ Below w.heap.size w wr)) (fun v3 _ => 256 - (intOf v3).toNat)
  case atStart => exact ⟨0, Z256, by omega, rfl, ⟨heap_alloc2_new _ _ _, Z256_size, fun i h => absurd h (by omega), heap_alloc2_old _ _ _, HB0.out⟩⟩
  case round =>
    obtain ⟨k, cs, hk, rfl, HS⟩ := hrel
    by_cases hlt : k < 256
    · have hck : wr.cell? ⟨w.heap.size + 1, k, none⟩ = some (cs[k]'(by have := HS.out.2.1; omega)) := by rw [cell_of_row _ _ _ _ _ _ HS.out.1]; exact Array.getElem?_eq_getElem _
      have hfk : wr.frozen? ⟨w.heap.size + 1, k, none⟩ = false := frozen_of_row _ _ _ _ _ HS.out.1
      generalize (cs[k]'(by have := HS.out.2.1; omega)) = u at *
      go_wp2_with (first | (go_at_call 80; refine (step_any 0 k _ (by omega) (by omega)).mono ?_; rintro e w' ⟨rfl, rfl⟩))
      go_roundw
      case rel =>
        refine ⟨k + 1, cs.setIfInBounds k (.int .u32 (stepN 0 k : Nat)), by omega, by go_num, ⟨?_, by simp [HS.out.2.1], ?_, ?_, ?_⟩⟩
        · exact heap_setCell_same _ _ _ _ _ _ HS.out.1
        · intro i hi
          rw [Array.getElem?_setIfInBounds]
          by_cases e : k = i
          · subst e; rw [if_pos rfl, if_pos (by rw [HS.out.2.1]; exact hlt), tab_at hlt]
          · rw [if_neg e]; exact HS.out.2.2.1 i (by omega)
        · rw [heap_setCell_other _ _ _ _ (by simp)]; exact HS.out.2.2.2.1
        · exact HS.out.2.2.2.2.setCell (by simp) _
      case measure => simp [intOf]; omega
    · obtain rfl : k = 256 := by omega
      have Hsz : Aside0 ((Try.prog.info? 118).map (·.size) = some cs.size) := ⟨by rw [HS.out.2.1]; kernel_rfl⟩
      have HZ : Aside0 (Z256.size = cs.size) := ⟨by rw [HS.out.2.1, Z256_size]⟩
      have H1 : Aside0 (cs.all (fun x => x.oneCell') = true) := ⟨by
        rw [Array.all_eq_true]
        intro i hi
        have := HS.out.2.2.1 i (by have := HS.out.2.1; omega)
        rw [Array.getElem?_eq_getElem hi] at this
        rw [Option.some.inj this]; rfl⟩
      have Hg := Aside0.mk (blk_lt HS.out.1)
      go_wp2_with (first | (refine wpList_load_row rfl 118 (.tmp 1) rfl (w.heap.size + 1) rfl 118 cs (0, 0) _ HS.out.1 Try.underlying118 rfl Hsz.out ?_) | (refine wpList_store_row rfl 118 (.tmp 0) (.tmp 12) rfl w.heap.size cs rfl rfl 118 Z256 HS.out.2.2.2.1 Hsz.out HZ.out H1.out ?_))
      refine bodyPost_ret (v := .agg cs) (results_cell_row Try.results61 _ _ w.heap.size 118 cs (0, 0) _ rfl (setRow_heap _ _ _ _ _ _ HS.out.2.2.2.1) Try.underlying118 rfl Hsz.out) rfl ⟨cs, rfl, ⟨HS.out.2.1, tab_lt, HS.out.2.2.1⟩, ?_⟩
      exact below_setRow HS.out.2.2.2.2 (Nat.le_refl _) _

end Go.Proofs.Yticpjidcgaaldaa

namespace Go.Proofs.Yticpjidcgaaldaa
open Go.RowKit Go.Proofs.YticpjidcgaaldaaW.PrintWords Go.Proofs.YticpjidcgaaldaaW.PrintLast Go.Proofs.YticpjidcgaaldaaW.PrintMore
attribute [local go_sem] max2_int min2_int max_two min_two max_three min_three max_four min_four   -- for this text's walks alone
set_option linter.unusedVariables false
set_option linter.unusedSimpArgs false

mutual
def hoodwinkref02_Sum.l0 : Nat → Int → List Int → Int → Int → Option (Int)
  | 0, _, _, _, _ => none
  | k + 1, x3, x8, x9, x10 => if x10 < x9 then (if 0 ≤ x10 then (if x10 < (x8.length : Int) then (hoodwinkref02_Sum.l1 k x3 (rd x8 x10) 0 x8 x9 x10) else (none)) else (none)) else (some ((IntKind.u64.wrap (4294967295 - x3)) % 4294967296))
def hoodwinkref02_Sum.l1 : Nat → Int → Int → Int → List Int → Int → Int → Option (Int)
  | 0, _, _, _, _, _, _ => none
  | k + 1, x3, x5, x6, x8, x9, x10 => if x6 < 8 then (if 0 ≤ x6 then (if (Int.tmod (IntKind.u64.wrap ((Int.tmod x3 2) + (shr .u64 (IntKind.u64.wrap (x5)) x6))) 2) = 1 then (hoodwinkref02_Sum.l1 k (Go.bits .xor .u64 (IntKind.u64.wrap (Int.tdiv x3 2)) 2197175160) x5 (wrap64 (x6 + 1)) x8 x9 x10) else (hoodwinkref02_Sum.l1 k (IntKind.u64.wrap (Int.tdiv x3 2)) x5 (wrap64 (x6 + 1)) x8 x9 x10)) else (none)) else (hoodwinkref02_Sum.l0 k x3 x8 x9 (wrap64 (x10 + 1)))
end
def hoodwinkref02_Sum.f (k : Nat) (l0 : List Int) : Option (Int) := hoodwinkref02_Sum.l0 k 4294967295 l0 (l0.length : Int) 0
set_option maxHeartbeats 8000000 in
set_option maxRecDepth 100000 in
theorem hoodwinkref02_Sum.calls (k : Nat) (A0 : Option Addr) (c0 : Nat) (l0 : List Int) (r : Int) (w : World) (hr0 : Kd.C (Kd.int .u8) w A0 l0.length l0) (hc0 : l0.length ≤ c0) (h : hoodwinkref02_Sum.f k l0 = some r) :
    Calls Try.prog 68 #[.slice A0 l0.length c0] w fun e w' => e = .returned (.int .u32 r) ∧ Drawn0 w w' := by
  have HR0 := Aside0.mk hr0
  have HC0 := Aside0.mk hc0
  clear hr0 hc0
  have H : (hoodwinkref02_Sum.l0 k 4294967295 l0 (l0.length : Int) 0) = some r := h
  clear h
  have H' := Aside0.mk H
  clear H
  go_enter Try.func68, Try.ntmps68
  go_wp2
  go_loopg [3, 10] k (fun kq v3 v10 w' => ∃ (x3_1 : Int) (x10_1 : Int), v3 = .int .u64 x3_1 ∧ v10 = .int .i64 x10_1 ∧ Aside0 (hoodwinkref02_Sum.l0 kq x3_1 l0 (l0.length : Int) x10_1 = some r) ∧ Aside0 (kq ≤ k) ∧ Drawn0 w w')
  case atStart => exact ⟨(4294967295), (0), (by first | rfl | (simp; done) | (simp [*]; done)), (by first | rfl | (simp; done) | (simp [*]; done)), H', ⟨Nat.le_refl _⟩, by repeat (first | exact Drawn0.refl _ | apply Drawn0.step)⟩
  case round =>
    clear H'
    obtain ⟨x3_1, x10_1, rfl, rfl, HA, HK1, ⟨m1, rfl⟩⟩ := hrel
    cases gk with
    | zero => exact absurd HA.out (by simp [hoodwinkref02_Sum.l0])
    | succ k1 =>
      have H := HA.out
      clear HA
      simp only [hoodwinkref02_Sum.l0] at H
      by_cases c2 : x10_1 < (l0.length : Int)
      · rw [if_pos c2] at H
        have c2b0 : decide (x10_1 < (l0.length : Int)) = true := decide_eq_true c2
        clear c2
        by_cases c3 : 0 ≤ x10_1
        · rw [if_pos c3] at H
          have c3b0 : decide (0 ≤ x10_1) = true := decide_eq_true c3
          clear c3
          by_cases c4 : x10_1 < (l0.length : Int)
          · rw [if_pos c4] at H
            have c4b0 : decide (x10_1 < (l0.length : Int)) = true := decide_eq_true c4
            clear c4
            have H' := Aside0.mk H
            clear H
            have p146 : 0 ≤ (x10_1 : Int) := of_decide_eq_true (by first | (with_reducible assumption) | assumption)
            have q146 : x10_1 < (l0.length : Int) := of_decide_eq_true (by first | (with_reducible assumption) | assumption)
            obtain ⟨ad146, e146, hx146_0⟩ := Kd.at_int HR0.out x10_1 p146 q146
            cases e146
            replace p146 := eq_true p146
            replace q146 := eq_true q146
            go_wp2
            go_loopg [3, 6] k1 (fun kq v3 v6 w' => ∃ (x3_2 : Int) (x6_2 : Int), v3 = .int .u64 x3_2 ∧ v6 = .int .i64 x6_2 ∧ Aside0 (hoodwinkref02_Sum.l1 kq x3_2 (rd l0 x10_1) x6_2 l0 (l0.length : Int) x10_1 = some r) ∧ Aside0 (kq ≤ k1) ∧ Drawn0 w w')
            case atStart => exact ⟨(x3_1), (0), (by first | rfl | (simp; done) | (simp [*]; done)), (by first | rfl | (simp; done) | (simp [*]; done)), H', ⟨Nat.le_refl _⟩, by repeat (first | exact Drawn0.refl _ | apply Drawn0.step)⟩
            case round =>
              clear H'
              try clear p1
              try clear q1
              try clear hx1
              try clear c2
              try clear c2b0
              try clear p2
              try clear c3
              try clear c3b0
              try clear c4
              try clear c4b0
              try clear hx146_0
              try clear p146
              try clear q146
              obtain ⟨x3_2, x6_2, rfl, rfl, HA, HK2, ⟨m2, rfl⟩⟩ := hrel
              cases gk with
              | zero => exact absurd HA.out (by simp [hoodwinkref02_Sum.l1])
              | succ k2 =>
                have H := HA.out
                clear HA
                simp only [hoodwinkref02_Sum.l1] at H
                by_cases c5 : x6_2 < 8
                · rw [if_pos c5] at H
                  have c5b0 : decide (x6_2 < 8) = true := decide_eq_true c5
                  clear c5
                  by_cases c6 : 0 ≤ x6_2
                  · rw [if_pos c6] at H
                    have c6b0 := eq_true c6
                    have c6b1 : decide (0 ≤ x6_2) = true := decide_eq_true c6
                    clear c6
                    obtain ⟨ji7, hji7⟩ : ∃ j_ : Int, (shr .u64 (IntKind.u64.wrap ((rd l0 x10_1))) x6_2) = j_ := ⟨_, rfl⟩
                    replace H : (if (Int.tmod (IntKind.u64.wrap ((Int.tmod x3_2 2) + (ji7))) 2) = 1 then (hoodwinkref02_Sum.l1 k2 (Go.bits .xor .u64 (IntKind.u64.wrap (Int.tdiv x3_2 2)) 2197175160) (rd l0 x10_1) (wrap64 (x6_2 + 1)) l0 (l0.length : Int) x10_1) else (hoodwinkref02_Sum.l1 k2 (IntKind.u64.wrap (Int.tdiv x3_2 2)) (rd l0 x10_1) (wrap64 (x6_2 + 1)) l0 (l0.length : Int) x10_1)) = some r := by first | (rw [hji7] at H; exact H) | (simp only [hji7] at H ⊢; exact H)
                    have hji7_ : ((IntKind.u64.wrap ((rd l0 x10_1))) / 2 ^ min x6_2.toNat 64) = ji7 := hji7
                    have hji7z : x6_2 ≤ 64 → ((IntKind.u64.wrap ((rd l0 x10_1))) / 2 ^ x6_2.toNat) = ji7 := shr_small hji7
                    by_cases c8 : (Int.tmod (IntKind.u64.wrap ((Int.tmod x3_2 2) + (ji7))) 2) = 1
                    · rw [if_pos c8] at H
                      have c8b0 : ((Int.tmod (IntKind.u64.wrap ((Int.tmod x3_2 2) + (ji7))) 2) == 1) = true := beq_iff_eq.mpr c8
                      have c8b1 : ((Int.tmod (IntKind.u64.wrap ((Int.tmod x3_2 2) + (ji7))) 2) != 1) = false := bne_eq_false_iff_eq.mpr c8
                      clear c8
                      have H' := Aside0.mk H
                      clear H
                      go_wp2
                      go_roundg k2
                      case measure => have := HK1.out; have := HK2.out; omega
                      case rel => exact ⟨(Go.bits .xor .u64 (IntKind.u64.wrap (Int.tdiv x3_2 2)) 2197175160), (wrap64 (x6_2 + 1)), (by first | rfl | (simp; done) | (simp [*]; done)), (by first | rfl | (simp; done) | (simp [*]; done)), H', ⟨by have := HK1.out; have := HK2.out; omega⟩, by repeat (first | exact Drawn0.refl _ | apply Drawn0.step)⟩
                    · rw [if_neg c8] at H
                      have c8b0 : ((Int.tmod (IntKind.u64.wrap ((Int.tmod x3_2 2) + (ji7))) 2) == 1) = false := beq_eq_false_iff_ne.mpr c8
                      have c8b1 : ((Int.tmod (IntKind.u64.wrap ((Int.tmod x3_2 2) + (ji7))) 2) != 1) = true := bne_iff_ne.mpr c8
                      have H' := Aside0.mk H
                      clear H
                      go_wp2
                      go_roundg k2
                      case measure => have := HK1.out; have := HK2.out; omega
                      case rel => exact ⟨(IntKind.u64.wrap (Int.tdiv x3_2 2)), (wrap64 (x6_2 + 1)), (by first | rfl | (simp; done) | (simp [*]; done)), (by first | rfl | (simp; done) | (simp [*]; done)), H', ⟨by have := HK1.out; have := HK2.out; omega⟩, by repeat (first | exact Drawn0.refl _ | apply Drawn0.step)⟩
                  · rw [if_neg c6] at H
                    exact absurd H (by simp)
                · rw [if_neg c5] at H
                  have c5b0 : decide (x6_2 < 8) = false := decide_eq_false c5
                  clear c5
                  have H' := Aside0.mk H
                  clear H
                  go_wp2
                  go_roundg k2
                  case measure => have := HK1.out; have := HK2.out; omega
                  case rel => exact ⟨(x3_2), (wrap64 (x10_1 + 1)), (by first | rfl | (simp; done) | (simp [*]; done)), (by first | rfl | (simp; done) | (simp [*]; done)), H', ⟨by have := HK1.out; have := HK2.out; omega⟩, by repeat (first | exact Drawn0.refl _ | apply Drawn0.step)⟩
          · rw [if_neg c4] at H
            exact absurd H (by simp)
        · rw [if_neg c3] at H
          exact absurd H (by simp)
      · rw [if_neg c2] at H
        have c2b0 : decide (x10_1 < (l0.length : Int)) = false := decide_eq_false c2
        clear c2
        obtain rfl := Option.some.inj H
        go_wp2
        go_ret
        exact ⟨by first | rfl | (simp; done) | (simp [*]; done), by repeat (first | exact Drawn0.refl _ | apply Drawn0.step)⟩

end Go.Proofs.Yticpjidcgaaldaa

namespace Go.Proofs.Yticpjidcgaaldaa
open Go.RowKit Go.Proofs.YticpjidcgaaldaaW.PrintWords Go.Proofs.YticpjidcgaaldaaW.PrintLast Go.Proofs.YticpjidcgaaldaaW.PrintMore
set_option linter.unusedVariables false
set_option linter.unusedSimpArgs false

theorem xor_half (a b : Nat) : (a ^^^ b) / 2 = a / 2 ^^^ b / 2 := by
  have := Nat.xor_div_two_pow (a := a) (b := b) (n := 1)
  simpa using this
theorem xor_mod2 (a b : Nat) : (a ^^^ b) % 2 = (a % 2 + b % 2) % 2 := by
  have := Nat.xor_mod_two_pow (a := a) (b := b) (n := 1)
  rw [Nat.pow_one] at this
  rw [this]
  rcases Nat.mod_two_eq_zero_or_one a with h | h <;> rcases Nat.mod_two_eq_zero_or_one b with h' | h' <;> rw [h, h'] <;> rfl
theorem poly_xor (a b p : Nat) : (a ^^^ b) % 2 * p = a % 2 * p ^^^ b % 2 * p := by
  rw [xor_mod2]
  rcases Nat.mod_two_eq_zero_or_one a with h | h <;> rcases Nat.mod_two_eq_zero_or_one b with h' | h' <;> rw [h, h'] <;> simp
theorem bitN_xor (a b : Nat) : bitN (a ^^^ b) = bitN a ^^^ bitN b := by
  unfold bitN
  rw [xor_half, poly_xor]
  ac_rfl
theorem bits8_xor : ∀ (k a b : Nat), bits8 k (a ^^^ b) = bits8 k a ^^^ bits8 k b
  | 0, _, _ => rfl
  | k + 1, a, b => by show bitN _ = bitN _ ^^^ bitN _; rw [bits8_xor k, bitN_xor]
theorem bits8_shift : ∀ (k h : Nat), bits8 k (h * 2 ^ k) = h
  | 0, h => by simp [bits8]
  | k + 1, h => by
    have e : h * 2 ^ (k + 1) = (2 * h) * 2 ^ k := by rw [Nat.pow_succ]; ac_rfl
    show bitN (bits8 k (h * 2 ^ (k + 1))) = h
    rw [e, bits8_shift k]
    unfold bitN
    rw [show 2 * h / 2 = h by omega, show 2 * h % 2 = 0 by omega]
    simp
theorem split256 (s : Nat) : s = s / 256 * 256 ^^^ s % 256 := by
  have h := Nat.two_pow_add_eq_or_of_lt (i := 8) (b := s % 256) (by omega) (s / 256)
  have hx : s / 256 * 256 ^^^ s % 256 = s / 256 * 256 ||| s % 256 := by
    apply Nat.eq_of_testBit_eq
    intro i
    rw [Nat.testBit_xor, Nat.testBit_or, show s / 256 * 256 = 2 ^ 8 * (s / 256) by omega, Nat.testBit_two_pow_mul]
    by_cases hi : 8 ≤ i
    · rw [Nat.testBit_lt_two_pow (x := s % 256) (i := i) (Nat.lt_of_lt_of_le (by omega : s % 256 < 2 ^ 8) (Nat.pow_le_pow_right (by omega) hi))]
      simp
    · simp [hi]
  rw [hx, show s / 256 * 256 = 2 ^ 8 * (s / 256) by omega, ← h]
  omega
theorem step_table (s b : Nat) (hb : b < 256) : stepN s b = s / 256 ^^^ tab (s % 256 ^^^ b) := by
  have hl : s % 256 ^^^ b < 256 := Nat.xor_lt_two_pow (n := 8) (by omega) hb
  have ht : tab (s % 256 ^^^ b) = bits8 8 (s % 256 ^^^ b) := by rw [← tab_at hl]; unfold stepN; rw [Nat.zero_xor]
  have e : s ^^^ b = s / 256 * 2 ^ 8 ^^^ (s % 256 ^^^ b) := by
    rw [← Nat.xor_assoc]; exact congrArg (· ^^^ b) (split256 s)
  unfold stepN
  rw [e, bits8_xor, bits8_shift, ht]
theorem tstep_tab (s : Nat) (b : Int) (h0 : 0 ≤ b) (hb : b < 256) : tstep tab s b = stepN s b.toNat := by
  rw [step_table s b.toNat (by omega)]; rfl

def refB (b : Nat) : Nat → Nat → Nat
  | 0, s => s
  | i + 1, s => let r := refB b i s; if (r % 2 + b / 2 ^ i) % 2 = 1 then r / 2 ^^^ 2197175160 else r / 2
theorem refB_bits (b s : Nat) : ∀ i, refB b i s ^^^ b / 2 ^ i = bits8 i (s ^^^ b)
  | 0 => by simp [refB, bits8]
  | i + 1 => by
    have ih := refB_bits b s i
    show (if (refB b i s % 2 + b / 2 ^ i) % 2 = 1 then refB b i s / 2 ^^^ 2197175160 else refB b i s / 2) ^^^ b / 2 ^ (i + 1) = bitN (bits8 i (s ^^^ b))
    rw [← ih]
    generalize refB b i s = r
    have hd : b / 2 ^ (i + 1) = b / 2 ^ i / 2 := by rw [Nat.pow_succ, Nat.div_div_eq_div_mul]
    rw [hd]
    generalize b / 2 ^ i = c
    unfold bitN
    rw [xor_half, xor_mod2]
    by_cases h : (r % 2 + c) % 2 = 1
    · rw [if_pos h, show (r % 2 + c % 2) % 2 = 1 by omega, Nat.one_mul]; ac_rfl
    · rw [if_neg h, show (r % 2 + c % 2) % 2 = 0 by omega, Nat.zero_mul, Nat.xor_zero]
theorem refB_step (b s : Nat) (hb : b < 256) : refB b 8 s = stepN s b := by
  have := refB_bits b s 8
  rw [show b / 2 ^ 8 = 0 by omega, Nat.xor_zero] at this
  exact this
theorem refB_lt {b : Nat} : ∀ (i : Nat) {s : Nat}, s < 4294967296 → refB b i s < 4294967296
  | 0, _, h => h
  | i + 1, s, h => by
    have := refB_lt (b := b) i h
    show (if (refB b i s % 2 + b / 2 ^ i) % 2 = 1 then refB b i s / 2 ^^^ 2197175160 else refB b i s / 2) < 4294967296
    split
    · exact Nat.xor_lt_two_pow (n := 32) (by omega) (by omega)
    · omega

theorem u64w {n : Int} (h : 0 ≤ n ∧ n ≤ 18446744073709551615) : IntKind.u64.wrap n = n := IntWalk.u64_in n h
theorem shr_u64 (b i : Nat) (hb : b < 256) (hi : i ≤ 64) : shr .u64 (IntKind.u64.wrap (b : Int)) (i : Int) = ((b / 2 ^ i : Nat) : Int) := by
  rw [u64w (by omega)]
  show (b : Int) / 2 ^ (min ((i : Int)).toNat 64) = _
  rw [Int.toNat_natCast, Nat.min_eq_left hi]
  push_cast; rfl
theorem refsum_l1 (l : List Int) (b s : Nat) (hb : b < 256) (hs : s < 4294967296) (x10 : Int) : ∀ (d k i : Nat), i + d = 8 →
    hoodwinkref02_Sum.l1 (k + d + 1) (refB b i s : Nat) (b : Int) (i : Int) l (l.length : Int) x10 = hoodwinkref02_Sum.l0 k (refB b 8 s : Nat) l (l.length : Int) (wrap64 (x10 + 1))
  | 0, k, i, hi => by
    obtain rfl : i = 8 := by omega
    simp only [hoodwinkref02_Sum.l1]
    rw [if_neg (by omega)]
  | d + 1, k, i, hi => by
    have ih := refsum_l1 l b s hb hs x10 d k (i + 1) (by omega)
    have hr := refB_lt (b := b) i hs
    have hq : b / 2 ^ i < 256 := Nat.lt_of_le_of_lt (Nat.div_le_self _ _) hb
    show hoodwinkref02_Sum.l1 (k + d + 1 + 1) _ _ _ _ _ _ = _
    rw [hoodwinkref02_Sum.l1]
    rw [if_pos (by omega), if_pos (by omega), shr_u64 b i hb (by omega), next64 (by omega)]
    have e : refB b (i + 1) s = if (refB b i s % 2 + b / 2 ^ i) % 2 = 1 then refB b i s / 2 ^^^ 2197175160 else refB b i s / 2 := rfl
    rw [← ih, e]
    generalize refB b i s = r at *
    generalize b / 2 ^ i = c at *
    have h2 : Int.tmod (r : Int) 2 = ((r % 2 : Nat) : Int) := by rw [Int.tmod_eq_emod_of_nonneg (by omega)]; rfl
    have h3 : Int.tdiv (r : Int) 2 = ((r / 2 : Nat) : Int) := by rw [Int.tdiv_eq_ediv_of_nonneg (by omega)]; rfl
    rw [h2, h3, u64w (by omega), Int.tmod_eq_emod_of_nonneg (by omega), u64w (by omega)]
    by_cases h : (r % 2 + c) % 2 = 1
    · rw [if_pos (by omega), if_pos h]
      have hx : bits .xor .u64 ((r / 2 : Nat) : Int) 2197175160 = ((r / 2 ^^^ 2197175160 : Nat) : Int) := u64_xor_nat (r / 2) 2197175160 (by omega) (by omega)
      rw [hx]
    · rw [if_neg (by omega), if_neg h]
def steps (s : Nat) (l : List Int) : Nat := l.foldl (fun s b => stepN s b.toNat) s
theorem stepN_lt {s b : Nat} (hs : s < 4294967296) (hb : b < 256) : stepN s b < 4294967296 := bits8_lt 8 (Nat.xor_lt_two_pow (n := 32) (by omega) (by omega))
theorem tsum_steps : ∀ {l : List Int} {s : Nat}, Bytes l → tsum tab s l = steps s l
  | [], _, _ => rfl
  | b :: l, s, hb => by
    have h := hb b List.mem_cons_self
    show tsum tab (tstep tab s b) l = steps (stepN s b.toNat) l
    rw [tstep_tab s b h.1 h.2, tsum_steps (fun x hx => hb x (List.mem_cons_of_mem _ hx))]
theorem refsum_l0 (l : List Int) (hb : Bytes l) (hl : l.length < 9223372036854775807) : ∀ (d i : Nat) (s : Nat), i + d = l.length → s < 4294967296 →
    hoodwinkref02_Sum.l0 (10 * d + 1) (s : Int) l (l.length : Int) (i : Int) = some ((4294967295 - steps s (l.drop i) : Nat) : Int)
  | 0, i, s, hi, hs => by
    show hoodwinkref02_Sum.l0 (0 + 1) _ _ _ _ = _
    rw [hoodwinkref02_Sum.l0]
    rw [if_neg (by omega), List.drop_of_length_le (by omega), u64w (by omega)]
    show some _ = some ((4294967295 - s : Nat) : Int)
    congr 1; omega
  | d + 1, i, s, hi, hs => by
    have hil : i < l.length := by omega
    obtain ⟨b, hbe, hbl⟩ := hb.nat hil
    have hst := stepN_lt hs hbl
    have ih := refsum_l0 l hb hl d (i + 1) (stepN s b) (by omega) hst
    have h1 := refsum_l1 l b s hbl hs (i : Int) 8 (10 * d + 1) 0 (by omega)
    have e : l.drop i = (b : Int) :: l.drop (i + 1) := by rw [List.drop_eq_getElem_cons hil, hbe]
    rw [show 10 * (d + 1) + 1 = (10 * d + 1 + 8 + 1) + 1 by omega, hoodwinkref02_Sum.l0]
    rw [if_pos (by omega), if_pos (by omega), if_pos (by omega), rd_getElem hil, hbe]
    have h2 : hoodwinkref02_Sum.l1 (10 * d + 1 + 8 + 1) (s : Int) (b : Int) 0 l (l.length : Int) (i : Int) = _ := h1
    rw [h2, refB_step b s hbl, next64 (by omega), ih, e]
    rfl
theorem refsum_f (l : List Int) (hb : Bytes l) (hl : l.length < 9223372036854775807) : hoodwinkref02_Sum.f (10 * l.length + 1) l = some (sumN tab l : Nat) := by
  have := refsum_l0 l hb hl l.length 0 4294967295 (by omega) (by omega)
  unfold sumN
  rw [tsum_steps hb]
  simpa [hoodwinkref02_Sum.f] using this
theorem refsum_any (A : Option Addr) (n c : Nat) (l : List Int) (w : World) (hr : (Kd.int .u8).C w A n l) (hc : n ≤ c) (hb : Bytes l) (hl : n < 9223372036854775807) :
    Calls Try.prog 68 #[.slice A n c] w fun e w' => e = .returned (.int .u32 (sumN tab l : Nat)) ∧ Drawn0 w w' := by
  obtain rfl := hr.1
  exact hoodwinkref02_Sum.calls (10 * l.length + 1) A c l _ w hr hc (refsum_f l hb hl)

end Go.Proofs.Yticpjidcgaaldaa

namespace Go.Proofs.Yticpjidcgaaldaa
open Go.RowKit
set_option linter.unusedVariables false
end Go.Proofs.Yticpjidcgaaldaa

namespace Go.Proofs.Yticpjidcgaaldaa
open Go.RowKit Go.Proofs.YticpjidcgaaldaaW.PrintWords Go.Proofs.YticpjidcgaaldaaW.PrintLast Go.Proofs.YticpjidcgaaldaaW.PrintMore
set_option linter.unusedVariables false
set_option linter.unusedSimpArgs false

def valN : List Int → Nat
  | [] => 0
  | b :: l => b.toNat + 256 * valN l
theorem valN_lt : ∀ {l : List Int}, Bytes l → valN l < 256 ^ l.length
  | [], _ => by simp [valN]
  | b :: l, hb => by
    have h1 := valN_lt (l := l) (fun x hx => hb x (List.mem_cons_of_mem _ hx))
    have h2 := hb b List.mem_cons_self
    show b.toNat + 256 * valN l < 256 ^ (l.length + 1)
    rw [Nat.pow_succ]
    omega
end Go.Proofs.Yticpjidcgaaldaa

namespace Go.Proofs.Yticpjidcgaaldaa
open Go.RowKit Go.Proofs.YticpjidcgaaldaaW.PrintWords Go.Proofs.YticpjidcgaaldaaW.PrintLast Go.Proofs.YticpjidcgaaldaaW.PrintMore
set_option linter.unusedVariables false
set_option linter.unusedSimpArgs false

theorem np_info : (Try.prog.info? 5).map (fun i => (i.zero, i.size, i.bytes)) = some (some (.int .u8 0), 1, 1) := by kernel_rfl
def Pn (w : World) (base g : Nat) (p : List Int) (v : Value) : Prop := w.heap[g]? = some (.cells #[v] 91 (0, 0)) ∧ (Kd.int .u8).R 5 w base (fun b => b ≠ g) v p
def PPut (w w' : World) (base g : Nat) (v : Value) (p' : List Int) (v' : Value) : Prop :=
  Pn w' base g p' v' ∧ KeepBut w w' g v.ownBlock ∧ (v'.ownBlock = none ∨ v'.ownBlock = v.ownBlock ∨ ∃ b, v'.ownBlock = some b ∧ w.heap.size ≤ b) ∧ Below base w w'
theorem blkn_grown {w w1 : World} {g : Nat} {row : Option Nat} {cs : Array Value} {t : TypeId} {fr : Nat × Nat} (hg : w.grownBy w1 row) (h : w.heap[g]? = some (.cells cs t fr)) (hr : some g ≠ row) : w1.heap[g]? = some (.cells cs t fr) := by
  rw [hg.block g (blk_lt h) hr]; exact h
theorem Rn_C {α : Type} {d : Kd α} {e base n c : Nat} {w : World} {ok : Nat → Prop} {Q : Option Addr} {xs : List α} (h : d.R e w base ok (.slice Q n c) xs) : xs.length = n ∧ n ≤ c ∧ d.C w Q n xs := by
  obtain ⟨A, c', he, hl, hC⟩ := Kd.R_reads h
  injection he with h1 h2 h3
  subst h1 h2 h3
  exact ⟨rfl, hl, hC⟩
theorem Pn.lt {w : World} {base g : Nat} {p : List Int} {v : Value} (h : Pn w base g p v) : g < w.heap.size := blk_lt h.1
theorem Pn.own {w : World} {base g : Nat} {p : List Int} {v : Value} (h : Pn w base g p v) : ∀ b, v.ownBlock = some b → b < w.heap.size := Kd.R_lt h.2
theorem Pn.ne {w : World} {base g : Nat} {p : List Int} {v : Value} (h : Pn w base g p v) : v.ownBlock ≠ some g := fun e => h.2.1 _ e rfl
theorem Pn.below {w w' : World} {base g : Nat} {p : List Int} {v : Value} (h : Pn w base g p v) (hb : Below w.heap.size w w') : Pn w' base g p v := ⟨blk_below h.1 hb, Kd.R_below h.2 hb⟩
theorem PPut.of_below {w w' : World} {base g : Nat} {p : List Int} {v : Value} (h : Pn w base g p v) (hbg : base ≤ g) (hb : Below w.heap.size w w') : PPut w w' base g v p v :=
  ⟨h.below hb, KeepBut.of_below hb g _, .inr (.inl rfl), hb.mono (Nat.le_trans hbg (Nat.le_of_lt h.lt))⟩
theorem PPut.trans {w w1 w2 : World} {base g : Nat} {v v1 v2 : Value} {p1 p2 : List Int} (h : PPut w w1 base g v p1 v1) (h' : PPut w1 w2 base g v1 p2 v2) : PPut w w2 base g v p2 v2 := by
  refine ⟨h'.1, ?_, ?_, h.2.2.2.trans h'.2.2.2⟩
  · refine ⟨Nat.le_trans h.2.1.1 h'.2.1.1, fun i hi hg hr => ?_⟩
    rw [h'.2.1.2 i (Nat.lt_of_lt_of_le hi h.2.1.1) hg (fun e => ?_), h.2.1.2 i hi hg hr]
    rcases h.2.2.1 with e1 | e1 | ⟨b, e1, hb⟩
    · rw [e1] at e; cases e
    · rw [e1] at e; exact hr e
    · rw [e1] at e; injection e with e; omega
  · rcases h'.2.2.1 with e | e | ⟨b, e, hb⟩
    · exact .inl e
    · rcases h.2.2.1 with e1 | e1 | ⟨b, e1, hb⟩
      · exact .inl (e.trans e1)
      · exact .inr (.inl (e.trans e1))
      · exact .inr (.inr ⟨b, e.trans e1, hb⟩)
    · exact .inr (.inr ⟨b, e, Nat.le_trans h.2.1.1 hb⟩)
theorem PPut.after {w w1 w2 : World} {base g : Nat} {v v' : Value} {p p' : List Int} (hb : base ≤ g) (hk : Pn w base g p v) (h : Below w.heap.size w w1) (h' : PPut w1 w2 base g v p' v') : PPut w w2 base g v p' v' := (PPut.of_below hk hb h).trans h'
set_option maxRecDepth 100000 in
set_option maxHeartbeats 2000000 in
theorem add_any (base g : Nat) (p q : List Int) (v : Value) (A : Option Addr) (n c : Nat) (w : World) (hk : Pn w base g p v) (hb : base ≤ g) (hq : (Kd.int .u8).C w A n q) (hl : p.length + n ≤ 100000000) :
    Calls Try.prog 70 #[.pointer (some ⟨g, 0, none⟩), .slice A n c] w fun e w' => ∃ v', e = .returned (.pointer (some ⟨g, 0, none⟩)) ∧ PPut w w' base g v (p ++ q) v' := by
  have c0 := blk_cell hk.1 0
  have HK := Aside0.mk hk
  have HQ := Aside0.mk hq
  have HB := Aside0.mk hb
  have HL : Aside0 ((p.length + n) * 1 ≤ 140737488355328) := ⟨by omega⟩
  obtain ⟨Q, d, hv⟩ := Kd.R_slice hk.2
  obtain ⟨m, hm⟩ : ∃ m, p.length = m := ⟨_, rfl⟩
  rw [hm] at hv
  subst hv
  clear hk hq hb hl hm
  go_enter Try.func70, Try.ntmps70
  go_wp2_with (at_builtin; go_loud (refine R_app .u8 (w0 := w) base rfl (.tmp 11) (.tmp 12) 23 5 1 rfl Try.underlying23 np_info (by decide) (.slice Q m d) p q A n c (fun b => b ≠ g) rfl rfl HK.out.2 HQ.out (fun k hk e => by have := HK.out.lt; omega) (Below.refl _ _) (Nat.le_trans HB.out (Nat.le_of_lt HK.out.lt)) HL.out ?_))
  intro v1 w1 ho hb1 hg hat
  obtain ⟨Q1, d1, hv1⟩ := Kd.R_slice ho
  obtain ⟨ll, hll⟩ : ∃ ll, (p ++ q).length = ll := ⟨_, rfl⟩
  rw [hll] at hv1
  clear hll
  subst hv1
  have hw1 := blkn_grown hg HK.out.1 (fun e => HK.out.ne e.symm)
  have y0 := blk_frozen hw1 0
  have z0 := blk_cell hw1 0
  have HO1 := Aside0.mk ho
  have HG1 := Aside0.mk hg
  have HA1 := Aside0.mk hat
  have HB1 := Aside0.mk hb1
  have HW1 := Aside0.mk hw1
  clear ho hb1 hg hat hw1
  go_wp2_with fail
  go_ret
  exact ⟨_, rfl, ⟨blk_set HW1.out 0 _, Kd.R_far HO1.out (fun k hk => hk) _⟩, (KeepBut.of_grown HG1.out g).set_ 0 _, .inr HA1.out, HB1.out.setCell HB.out _⟩
end Go.Proofs.Yticpjidcgaaldaa

namespace Go.Proofs.Yticpjidcgaaldaa
open Go.RowKit Go.Proofs.YticpjidcgaaldaaW.PrintWords Go.Proofs.YticpjidcgaaldaaW.PrintLast Go.Proofs.YticpjidcgaaldaaW.PrintMore
set_option linter.unusedVariables false
set_option linter.unusedSimpArgs false

theorem row8_C {w : World} {g : Nat} {q : List Int} {cs : Array Value} (h : w.heap[g]? = some (.cells cs 5 (0, 0))) (hcs : cs.toList = q.map (Value.int .u8)) (hm : q.length ≤ 1000) : (Kd.int .u8).C w (some ⟨g, 0, none⟩) q.length q :=
  C_of_block h ⟨hcs, rfl, by omega⟩

theorem and255 (x : Nat) (hx : x < 65536) : bits .and .u16 (x : Int) 255 % 256 = ((x % 256 : Nat) : Int) := by
  rw [show (255 : Int) = ((255 : Nat) : Int) from rfl, u16_and_nat x 255 hx (by omega), show (255 : Nat) = 2 ^ 8 - 1 from rfl, Nat.and_two_pow_sub_one_eq_mod]
  omega
theorem lowN_four (x : Nat) (hx : x < 4294967296) : lowN (x % 65536) 2 ++ lowN (x / 65536) 2 = lowN x 4 := by
  simp only [lowN, List.cons_append, List.nil_append]
  congr 1
  · omega
  · congr 1
    · omega
    · congr 1
      · omega
      · congr 1
        omega

set_option maxHeartbeats 1000000 in
theorem phalf_any (base g : Nat) (p : List Int) (v : Value) (x : Nat) (hx : x < 65536) (w : World) (hk : Pn w base g p v) (hb : base ≤ g) (hl : p.length ≤ 10000000) :
    Calls Try.prog 59 #[.pointer (some ⟨g, 0, none⟩), .int .u16 x] w fun e w' => ∃ v', e = .returned (.pointer (some ⟨g, 0, none⟩)) ∧ PPut w w' base g v (p ++ lowN x 2) v' := by
  have hal := below_alloc (Below.refl w.heap.size w) (.cells #[.int .u8 ((x % 256 : Nat) : Int), .int .u8 ((x / 256 % 256 : Nat) : Int)] 5)
  have HK := Aside0.mk hk
  have HB := Aside0.mk hb
  have HAL := Aside0.mk hal
  have key := add_any base g p (lowN x 2) v (some ⟨w.heap.size, 0, none⟩) 2 2 _ (hk.below hal) hb (row8_C (q := lowN x 2) (blk_new w _) rfl (by simp [lowN])) (by omega)
  have KEY := Aside0.mk key
  have E1 : Aside0 (bits .and .u16 (x : Int) 255 % 256 = ((x % 256 : Nat) : Int)) := ⟨and255 x hx⟩
  have E2 : Aside0 ((x : Int) / 256 = ((x / 256 % 256 : Nat) : Int)) := ⟨by omega⟩
  clear hk hb hal key hl
  go_enter Try.func59, Try.ntmps59
  go_wp2_with fail
  rw [E1.out, E2.out]
  refine KEY.out.mono ?_
  rintro e w1 ⟨v', rfl, h⟩
  have H := Aside0.mk (PPut.after HB.out HK.out HAL.out h)
  clear h
  go_wp2_with fail
  go_ret
  exact ⟨_, rfl, H.out⟩

set_option maxHeartbeats 1000000 in
theorem pword_any (base g : Nat) (p : List Int) (v : Value) (x : Nat) (hx : x < 4294967296) (w : World) (hk : Pn w base g p v) (hb : base ≤ g) (hl : p.length ≤ 1000000) :
    Calls Try.prog 39 #[.pointer (some ⟨g, 0, none⟩), .int .u32 x] w fun e w' => ∃ v', e = .returned (.pointer (some ⟨g, 0, none⟩)) ∧ PPut w w' base g v (p ++ lowN x 4) v' := by
  have HK := Aside0.mk hk
  have HB := Aside0.mk hb
  have KEY := Aside0.mk (phalf_any base g p v (x % 65536) (by omega) w hk hb (by omega))
  have KEY2 := Aside0.mk (fun v1 w1 (h : Pn w1 base g (p ++ lowN (x % 65536) 2) v1) => phalf_any base g (p ++ lowN (x % 65536) 2) v1 (x / 65536) (by omega) w1 h hb (by rw [List.length_append, lowN_length]; omega))
  have E1 : Aside0 (IntKind.u16.wrap (x : Int) = ((x % 65536 : Nat) : Int)) := ⟨by rw [IntKind.wrap_u16]; omega⟩
  have E2 : Aside0 ((x : Int) / 65536 = ((x / 65536 : Nat) : Int)) := ⟨by omega⟩
  have E3 := Aside0.mk (lowN_four x hx)
  clear hk hb hl
  go_enter Try.func39, Try.ntmps39
  go_wp2_with fail
  rw [E1.out]
  refine KEY.out.mono ?_
  rintro e w1 ⟨v1, rfl, h⟩
  have KEY3 := Aside0.mk (KEY2.out v1 w1 h.1)
  have H := Aside0.mk h
  clear h
  go_wp2_with fail
  rw [E2.out]
  refine KEY3.out.mono ?_
  rintro e w2 ⟨v2, rfl, h⟩
  rw [List.append_assoc, E3.out] at h
  have H2 := Aside0.mk (H.out.trans h)
  clear h
  go_wp2_with fail
  go_ret
  exact ⟨_, rfl, H2.out⟩
end Go.Proofs.Yticpjidcgaaldaa

namespace Go.Proofs.Yticpjidcgaaldaa
open Go.RowKit Go.Proofs.YticpjidcgaaldaaW.PrintWords Go.Proofs.YticpjidcgaaldaaW.PrintLast Go.Proofs.YticpjidcgaaldaaW.PrintMore
set_option linter.unusedVariables false
set_option linter.unusedSimpArgs false

set_option maxHeartbeats 1000000 in
theorem pbyte_any (base g : Nat) (p : List Int) (v : Value) (x : Int) (w : World) (hk : Pn w base g p v) (hb : base ≤ g) (hl : p.length ≤ 10000000) :
    Calls Try.prog 38 #[.pointer (some ⟨g, 0, none⟩), .int .u8 x] w fun e w' => ∃ v', e = .returned (.pointer (some ⟨g, 0, none⟩)) ∧ PPut w w' base g v (p ++ [x]) v' := by
  have hal := below_alloc (Below.refl w.heap.size w) (.cells #[.int .u8 x] 5)
  have HK := Aside0.mk hk
  have HB := Aside0.mk hb
  have HAL := Aside0.mk hal
  have key := add_any base g p [x] v (some ⟨w.heap.size, 0, none⟩) 1 1 _ (hk.below hal) hb (row8_C (blk_new w _) rfl (by simp)) (by omega)
  have KEY := Aside0.mk key
  clear hk hb hal key hl
  go_enter Try.func38, Try.ntmps38
  go_wp2_with fail
  refine KEY.out.mono ?_
  rintro e w1 ⟨v', rfl, h⟩
  have H := Aside0.mk (PPut.after HB.out HK.out HAL.out h)
  clear h
  go_wp2_with fail
  go_ret
  exact ⟨_, rfl, H.out⟩

end Go.Proofs.Yticpjidcgaaldaa

namespace Go.Proofs.Yticpjidcgaaldaa
open Go.RowKit Go.Proofs.YticpjidcgaaldaaW.PrintWords Go.Proofs.YticpjidcgaaldaaW.PrintLast Go.Proofs.YticpjidcgaaldaaW.PrintMore
set_option linter.unusedVariables false
set_option linter.unusedSimpArgs false

def cellsF (f : Nat → S59) : Nat → List Value
  | 0 => []
  | k + 1 => cellsF f k ++ [.int .i32 (f k).f0, .int .u32 (f k).f1]
theorem cellsF_length (f : Nat → S59) : ∀ k, (cellsF f k).length = 2 * k
  | 0 => rfl
  | k + 1 => by simp only [cellsF, List.length_append, cellsF_length f k, List.length_cons, List.length_nil]; omega
theorem cellsF_lo (f : Nat → S59) : ∀ (k j : Nat), j < k → (cellsF f k)[2 * j]? = some (.int .i32 (f j).f0)
  | 0, j, h => by omega
  | k + 1, j, h => by
    simp only [cellsF]
    by_cases hj : j < k
    · rw [List.getElem?_append_left (by rw [cellsF_length]; omega), cellsF_lo f k j hj]
    · obtain rfl : j = k := by omega
      rw [List.getElem?_append_right (by rw [cellsF_length]; omega), cellsF_length, Nat.sub_self]; rfl
theorem cellsF_hi (f : Nat → S59) : ∀ (k j : Nat), j < k → (cellsF f k)[2 * j + 1]? = some (.int .u32 (f j).f1)
  | 0, j, h => by omega
  | k + 1, j, h => by
    simp only [cellsF]
    by_cases hj : j < k
    · rw [List.getElem?_append_left (by rw [cellsF_length]; omega), cellsF_hi f k j hj]
    · obtain rfl : j = k := by omega
      rw [List.getElem?_append_right (by rw [cellsF_length]; omega), cellsF_length, show 2 * j + 1 - 2 * j = 1 by omega]; rfl
def boardL (f : Nat → S59) (n : Int) : List Value := cellsF f 48 ++ [.int .i64 n]
def boardC (f : Nat → S59) (n : Int) : Array Value := (boardL f n).toArray
theorem boardC_lo (f : Nat → S59) (n : Int) {j : Nat} (h : j < 48) : (boardC f n)[2 * j]? = some (.int .i32 (f j).f0) := by
  simp only [boardC, List.getElem?_toArray, boardL]
  rw [List.getElem?_append_left (by rw [cellsF_length]; omega), cellsF_lo f 48 j h]
theorem boardC_hi (f : Nat → S59) (n : Int) {j : Nat} (h : j < 48) : (boardC f n)[2 * j + 1]? = some (.int .u32 (f j).f1) := by
  simp only [boardC, List.getElem?_toArray, boardL]
  rw [List.getElem?_append_left (by rw [cellsF_length]; omega), cellsF_hi f 48 j h]
def flatC : List S59 → List Value
  | [] => []
  | c :: L => .int .i32 c.f0 :: .int .u32 c.f1 :: flatC L
def Bd (w : World) (g : Nat) (f : Nat → S59) (n : Int) : Prop := w.heap[g]? = some (.cells (boardC f n) 62 (0, 0))
theorem Bd.lo {w : World} {g : Nat} {f : Nat → S59} {n : Int} (h : Bd w g f n) {j : Nat} (hj : j < 48) : w.cell? ⟨g, 2 * j, none⟩ = some (.int .i32 (f j).f0) := (blk_cell h (2 * j)).trans (boardC_lo f n hj)
theorem Bd.hi {w : World} {g : Nat} {f : Nat → S59} {n : Int} (h : Bd w g f n) {j : Nat} (hj : j < 48) : w.cell? ⟨g, 2 * j + 1, none⟩ = some (.int .u32 (f j).f1) := (blk_cell h (2 * j + 1)).trans (boardC_hi f n hj)
end Go.Proofs.Yticpjidcgaaldaa

namespace Go.Proofs.Yticpjidcgaaldaa
open Go.RowKit Go.Proofs.YticpjidcgaaldaaW.PrintWords Go.Proofs.YticpjidcgaaldaaW.PrintLast Go.Proofs.YticpjidcgaaldaaW.PrintMore
set_option linter.unusedVariables false
set_option linter.unusedSimpArgs false

end Go.Proofs.Yticpjidcgaaldaa

namespace Go.Proofs.Yticpjidcgaaldaa
open Go.RowKit Go.Proofs.YticpjidcgaaldaaW.PrintWords Go.Proofs.YticpjidcgaaldaaW.PrintLast Go.Proofs.YticpjidcgaaldaaW.PrintMore
set_option linter.unusedVariables false
set_option linter.unusedSimpArgs false

end Go.Proofs.Yticpjidcgaaldaa

namespace Go.Proofs.Yticpjidcgaaldaa
open Go.RowKit Go.Proofs.YticpjidcgaaldaaW.PrintWords Go.Proofs.YticpjidcgaaldaaW.PrintLast Go.Proofs.YticpjidcgaaldaaW.PrintMore
set_option linter.unusedVariables false
set_option linter.unusedSimpArgs false

theorem Ru_C {α : Type} {d : Kd α} {e base n c : Nat} {w : World} {ok : Nat → Prop} {Q : Option Addr} {xs : List α} (h : d.R e w base ok (.slice Q n c) xs) : xs.length = n ∧ n ≤ c ∧ d.C w Q n xs := by
  obtain ⟨A, c', he, hl, hC⟩ := Kd.R_reads h
  injection he with h1 h2 h3
  subst h1 h2 h3
  exact ⟨rfl, hl, hC⟩
theorem cell_full : (Try.prog.info? 59).map (fun i => (i.zero, i.size, i.bytes)) = some (some (.agg #[.int .i32 0, .int .u32 0]), 2, 8) := by kernel_rfl
end Go.Proofs.Yticpjidcgaaldaa

namespace Go.Proofs.Yticpjidcgaaldaa
open Go.RowKit Go.Proofs.YticpjidcgaaldaaW.PrintWords Go.Proofs.YticpjidcgaaldaaW.PrintLast Go.Proofs.YticpjidcgaaldaaW.PrintMore
set_option linter.unusedVariables false
set_option linter.unusedSimpArgs false

end Go.Proofs.Yticpjidcgaaldaa

namespace Go.Proofs.Yticpjidcgaaldaa
open Go.RowKit Go.Proofs.YticpjidcgaaldaaW.PrintWords Go.Proofs.YticpjidcgaaldaaW.PrintLast Go.Proofs.YticpjidcgaaldaaW.PrintMore
set_option linter.unusedVariables false

end Go.Proofs.Yticpjidcgaaldaa

namespace Go.Proofs.Yticpjidcgaaldaa
open Go.RowKit Go.Proofs.YticpjidcgaaldaaW.PrintWords Go.Proofs.YticpjidcgaaldaaW.PrintLast Go.Proofs.YticpjidcgaaldaaW.PrintMore
set_option linter.unusedVariables false
set_option linter.unusedSimpArgs false

theorem C_one_cell {w : World} {g : Nat} {x : S59} (h : w.heap[g]? = some (.cells #[.int .i32 x.f0, .int .u32 x.f1] 59 (0, 0))) : k59.C w (some ⟨g, 0, none⟩) 1 [x] := by
  refine ⟨rfl, by decide, fun _ => ⟨_, rfl, fun j p hj => ?_⟩⟩
  have hj0 : j = 0 := by
    have := (List.getElem?_eq_some_iff.1 hj).1
    simp at this; exact this
  subst hj0
  obtain rfl : x = p := by simpa using hj
  refine ⟨[.int .i32 x.f0, .int .u32 x.f1], rfl, k59_mk w x, fun i u hu => ?_⟩
  show w.cell? ((⟨g, 0, none⟩ : Addr).add (0 * 2 + i)) = _
  rw [add_plain, Nat.zero_mul, Nat.zero_add]
  match i, hu with
  | 0, hu => exact (blk_cell h 0).trans hu
  | 1, hu => exact (blk_cell h 1).trans hu
  | i + 2, hu => simp at hu
end Go.Proofs.Yticpjidcgaaldaa

namespace Go.Proofs.Yticpjidcgaaldaa
open Go.RowKit Go.Proofs.YticpjidcgaaldaaW.PrintWords Go.Proofs.YticpjidcgaaldaaW.PrintLast Go.Proofs.YticpjidcgaaldaaW.PrintMore
set_option linter.unusedVariables false
set_option linter.unusedSimpArgs false

theorem flatC_get : ∀ (L : List S59) (i : Nat) (h : i < L.length), (flatC L)[2 * i]? = some (.int .i32 L[i].f0) ∧ (flatC L)[2 * i + 1]? = some (.int .u32 L[i].f1)
  | [], i, h => by simp at h
  | c :: L, 0, h => ⟨rfl, rfl⟩
  | c :: L, i + 1, h => by
    have ih := flatC_get L i (by simpa using h)
    rw [show 2 * (i + 1) = 2 * i + 1 + 1 by omega]
    simp only [flatC, List.getElem?_cons_succ, List.getElem_cons_succ]
    exact ih
theorem flatC_set : ∀ (L : List S59) (i : Nat) (h : i < L.length) (a b : Int), ((flatC L).set (2 * i) (.int .i32 a)).set (2 * i + 1) (.int .u32 b) = flatC (L.set i ⟨a, b⟩)
  | [], i, h, a, b => by simp at h
  | c :: L, 0, h, a, b => rfl
  | c :: L, i + 1, h, a, b => by
    have ih := flatC_set L i (by simpa using h) a b
    rw [show 2 * (i + 1) = 2 * i + 1 + 1 by omega]
    simp only [flatC, List.set_cons_succ]
    rw [ih]
def Rc (w : World) (g : Nat) (L : List S59) : Prop := w.heap[g]? = some (.cells (flatC L).toArray 59 (0, 0))
theorem Rc.lo {w : World} {g : Nat} {L : List S59} (h : Rc w g L) {i : Nat} (hi : i < L.length) : w.cell? ⟨g, 2 * i, none⟩ = some (.int .i32 L[i].f0) := (blk_cell h (2 * i)).trans (by rw [List.getElem?_toArray]; exact (flatC_get L i hi).1)
theorem Rc.hi {w : World} {g : Nat} {L : List S59} (h : Rc w g L) {i : Nat} (hi : i < L.length) : w.cell? ⟨g, 2 * i + 1, none⟩ = some (.int .u32 L[i].f1) := (blk_cell h (2 * i + 1)).trans (by rw [List.getElem?_toArray]; exact (flatC_get L i hi).2)
theorem Rc.set {w : World} {g : Nat} {L : List S59} (h : Rc w g L) {i : Nat} (hi : i < L.length) (a b : Int) : Rc ((w.setCell ⟨g, 2 * i, none⟩ (.int .i32 a)).setCell ⟨g, 2 * i + 1, none⟩ (.int .u32 b)) g (L.set i ⟨a, b⟩) := by
  refine (blk_set (blk_set h (2 * i) _) (2 * i + 1) _).trans ?_
  rw [← flatC_set L i hi a b]
  congr 2
  apply Array.ext'
  simp
theorem Rc.reads {w : World} {g : Nat} {L : List S59} (h : Rc w g L) (hm : L.length ≤ 1000000) : k59.C w (some ⟨g, 0, none⟩) L.length L := by
  refine ⟨rfl, by omega, fun _ => ⟨_, rfl, fun j p hj => ?_⟩⟩
  obtain ⟨hjl, rfl⟩ := List.getElem?_eq_some_iff.1 hj
  refine ⟨[.int .i32 L[j].f0, .int .u32 L[j].f1], rfl, k59_mk w _, fun i u hu => ?_⟩
  show w.cell? ((⟨g, 0, none⟩ : Addr).add (j * 2 + i)) = _
  rw [add_plain, Nat.mul_comm]
  match i, hu with
  | 0, hu => exact (h.lo hjl).trans hu
  | 1, hu => exact (h.hi hjl).trans hu
  | i + 2, hu => simp at hu
end Go.Proofs.Yticpjidcgaaldaa

namespace Go.Proofs.Yticpjidcgaaldaa
open Go.RowKit Go.Proofs.YticpjidcgaaldaaW.PrintWords Go.Proofs.YticpjidcgaaldaaW.PrintLast Go.Proofs.YticpjidcgaaldaaW.PrintMore
set_option linter.unusedVariables false
set_option linter.unusedSimpArgs false

end Go.Proofs.Yticpjidcgaaldaa

namespace Go.Proofs.Yticpjidcgaaldaa
open Go.RowKit Go.Proofs.YticpjidcgaaldaaW.PrintWords Go.Proofs.YticpjidcgaaldaaW.PrintLast Go.Proofs.YticpjidcgaaldaaW.PrintMore
set_option linter.unusedVariables false
set_option linter.unusedSimpArgs false

end Go.Proofs.Yticpjidcgaaldaa

namespace Go.Proofs.Yticpjidcgaaldaa
open Go.RowKit Go.Proofs.YticpjidcgaaldaaW.PrintWords Go.Proofs.YticpjidcgaaldaaW.PrintLast Go.Proofs.YticpjidcgaaldaaW.PrintMore
set_option linter.unusedVariables false
set_option linter.unusedSimpArgs false

def Rk (w : World) (g i k : Nat) (f : Nat → S59) : Prop := ∃ cur, w.heap[g]? = some (.cells cur 59 (0, 0)) ∧ ∀ j, i ≤ j → j < k → cur[2 * j]? = some (.int .i32 (f j).f0) ∧ cur[2 * j + 1]? = some (.int .u32 (f j).f1)
theorem Rk.lo {w : World} {g i k : Nat} {f : Nat → S59} (h : Rk w g i k f) {j : Nat} (h1 : i ≤ j) (h2 : j < k) : w.cell? ⟨g, 2 * j, none⟩ = some (.int .i32 (f j).f0) := by
  obtain ⟨cur, hb, hc⟩ := h
  exact (blk_cell hb (2 * j)).trans (hc j h1 h2).1
theorem Rk.hi {w : World} {g i k : Nat} {f : Nat → S59} (h : Rk w g i k f) {j : Nat} (h1 : i ≤ j) (h2 : j < k) : w.cell? ⟨g, 2 * j + 1, none⟩ = some (.int .u32 (f j).f1) := by
  obtain ⟨cur, hb, hc⟩ := h
  exact (blk_cell hb (2 * j + 1)).trans (hc j h1 h2).2
theorem Rk.block {w w1 : World} {g i k : Nat} {f : Nat → S59} (h : Rk w g i k f) (e : w1.heap[g]? = w.heap[g]?) : Rk w1 g i k f := by
  obtain ⟨cur, hb, hc⟩ := h
  exact ⟨cur, e.trans hb, hc⟩
theorem Rk.lt {w : World} {g i k : Nat} {f : Nat → S59} (h : Rk w g i k f) : g < w.heap.size := by
  obtain ⟨cur, hb, hc⟩ := h
  exact (Array.getElem?_eq_some_iff.1 hb).1
theorem Rk.below {w w1 : World} {g i k : Nat} {f : Nat → S59} (h : Rk w g i k f) (e : Below w.heap.size w w1) : Rk w1 g i k f := h.block (e.block _ h.lt)
theorem Rc.block {w w1 : World} {g : Nat} {L : List S59} (h : Rc w g L) (e : w1.heap[g]? = w.heap[g]?) : Rc w1 g L := e.trans h
theorem Rc.below {w w1 : World} {g : Nat} {L : List S59} (h : Rc w g L) (e : Below w.heap.size w w1) : Rc w1 g L := blk_below h e
end Go.Proofs.Yticpjidcgaaldaa

namespace Go.Proofs.Yticpjidcgaaldaa

end Go.Proofs.Yticpjidcgaaldaa

namespace Go.Proofs.Yticpjidcgaaldaa
open Go.RowKit Go.Proofs.YticpjidcgaaldaaW.PrintWords Go.Proofs.YticpjidcgaaldaaW.PrintLast Go.Proofs.YticpjidcgaaldaaW.PrintMore
set_option linter.unusedVariables false

def Only (L : List (Nat × Obj)) (W W' : World) : Prop := Below 0 W W' ∧ ∀ k, k < W.heap.size → (∀ p ∈ L, p.1 ≠ k) → W'.heap[k]? = W.heap[k]?
def Dist (L : List (Nat × Obj)) : Prop := ∀ (i j : Nat) (p q : Nat × Obj), L[i]? = some p → L[j]? = some q → p.1 = q.1 → i = j
def Hp (B : Nat) (w0 W : World) (L : List (Nat × Obj)) (F : List (World → Prop)) : Prop :=
  Below B w0 W ∧ (∀ p ∈ L, W.heap[p.1]? = some p.2 ∧ B ≤ p.1) ∧ Dist L ∧ B ≤ W.heap.size ∧ ∀ φ ∈ F, ∀ W', Only L W W' → φ W'
section
variable {B : Nat} {w0 W W1 : World} {L : List (Nat × Obj)} {F : List (World → Prop)}
theorem below_zero {B : Nat} {w w1 : World} (h : Below B w w1) : Below 0 w w1 := h.mono (Nat.zero_le _)
theorem Only.refl (L : List (Nat × Obj)) (W : World) : Only L W W := ⟨Below.refl _ _, fun _ _ _ => rfl⟩
theorem Hp.start (w : World) : Hp w.heap.size w w [] [] := ⟨Below.refl _ _, (fun p h => by cases h), (fun i j p q h => by simp at h), Nat.le_refl _, (fun φ h => by cases h)⟩
theorem Hp.bel (h : Hp B w0 W L F) : Below B w0 W := h.1
theorem Hp.le (h : Hp B w0 W L F) : B ≤ W.heap.size := h.2.2.2.1
theorem Hp.get {i g : Nat} {o : Obj} (h : Hp B w0 W L F) (hi : L[i]? = some (g, o)) : W.heap[g]? = some o := (h.2.1 _ (List.mem_of_getElem? hi)).1
theorem Hp.ge {i g : Nat} {o : Obj} (h : Hp B w0 W L F) (hi : L[i]? = some (g, o)) : B ≤ g := (h.2.1 _ (List.mem_of_getElem? hi)).2
theorem Hp.lt {i g : Nat} {o : Obj} (h : Hp B w0 W L F) (hi : L[i]? = some (g, o)) : g < W.heap.size := blk_lt (h.get hi)
theorem Hp.fact {i : Nat} {φ : World → Prop} (h : Hp B w0 W L F) (hi : F[i]? = some φ) : φ W := h.2.2.2.2 φ (List.mem_of_getElem? hi) W (Only.refl _ _)
theorem Hp.call (h : Hp B w0 W L F) (hb : Below W.heap.size W W1) : Hp B w0 W1 L F :=
  ⟨h.1.trans (hb.mono h.le), fun p hp => ⟨blk_below (h.2.1 p hp).1 hb, (h.2.1 p hp).2⟩, h.2.2.1, Nat.le_trans h.le hb.size, fun φ hφ W' ho => h.2.2.2.2 φ hφ W' ⟨(below_zero hb).trans ho.1, fun k hk hn => (ho.2 k (Nat.lt_of_lt_of_le hk hb.size) hn).trans (hb.block k hk)⟩⟩
theorem Hp.drew (h : Hp B w0 W L F) : Hp B w0 W.drew L F := h.call (below_drew (Below.refl _ _))
theorem Hp.box (h : Hp B w0 W L F) (o : Obj) : Hp B w0 (W.alloc o) L F := h.call (below_alloc (Below.refl _ _) o)
theorem Hp.alloc (h : Hp B w0 W L F) (o : Obj) : Hp B w0 (W.alloc o) ((W.heap.size, o) :: L) F := by
  have h1 := h.box o
  refine ⟨h1.1, fun p hp => ?_, ?_, h1.2.2.2.1, fun φ hφ W' ho => ?_⟩
  · rcases List.mem_cons.1 hp with rfl | hp
    · exact ⟨blk_new _ _, h.le⟩
    · exact h1.2.1 p hp
  · intro i j p q hi hj he
    match i, j, hi, hj with
    | 0, 0, _, _ => rfl
    | 0, j + 1, hi, hj =>
      obtain rfl : (W.heap.size, o) = p := by simpa using hi
      have := blk_lt (h.2.1 q (List.mem_of_getElem? (by simpa using hj))).1
      simp only at he; omega
    | i + 1, 0, hi, hj =>
      obtain rfl : (W.heap.size, o) = q := by simpa using hj
      have := blk_lt (h.2.1 p (List.mem_of_getElem? (by simpa using hi))).1
      simp only at he; omega
    | i + 1, j + 1, hi, hj => rw [h.2.2.1 i j p q (by simpa using hi) (by simpa using hj) he]
  · refine h.2.2.2.2 φ hφ W' ⟨(below_zero (below_alloc (Below.refl W.heap.size W) o)).trans ho.1, fun k hk hn => (ho.2 k (by simp; omega) (fun p hp => ?_)).trans (Below.heap_alloc W o k hk)⟩
    rcases List.mem_cons.1 hp with rfl | hp
    · simp only; omega
    · exact hn p hp
theorem Hp.change {i g : Nat} {o o' : Obj} (h : Hp B w0 W L F) (hi : L[i]? = some (g, o)) (hb : Below 0 W W1) (hz : W1.heap.size = W.heap.size) (hg : W1.heap[g]? = some o') (hk : ∀ k, k ≠ g → W1.heap[k]? = W.heap[k]?) : Hp B w0 W1 (L.set i (g, o')) F := by
  have hge := h.ge hi
  have hmem : ∀ p ∈ L.set i (g, o'), p = (g, o') ∨ (p ∈ L ∧ p.1 ≠ g) := by
    intro p hp
    obtain ⟨j, hj⟩ := List.getElem?_of_mem hp
    by_cases e : i = j
    · subst e
      have hlt : i < L.length := (List.getElem?_eq_some_iff.1 hi).1
      rw [List.getElem?_set_self hlt] at hj
      exact .inl (Option.some.inj hj).symm
    · rw [List.getElem?_set_ne e] at hj
      refine .inr ⟨List.mem_of_getElem? hj, fun hpg => e ?_⟩
      exact h.2.2.1 i j _ _ hi hj hpg.symm
  refine ⟨⟨hb.os.trans h.1.os, hb.tape.trans h.1.tape, hb.output.trans h.1.output, Nat.le_trans h.1.size hb.size, fun k hkB => (hk k (by omega)).trans (h.1.block k hkB)⟩, fun p hp => ?_, ?_, by rw [hz]; exact h.le, fun φ hφ W' ho => ?_⟩
  · rcases hmem p hp with rfl | ⟨hp, hne⟩
    · exact ⟨hg, hge⟩
    · exact ⟨(hk _ hne).trans (h.2.1 p hp).1, (h.2.1 p hp).2⟩
  · intro a b p q ha hb' he
    have key : ∀ (c : Nat) (r : Nat × Obj), (L.set i (g, o'))[c]? = some r → ∃ r', L[c]? = some r' ∧ r'.1 = r.1 := by
      intro c r hc
      by_cases e : i = c
      · subst e
        rw [List.getElem?_set_self (List.getElem?_eq_some_iff.1 hi).1] at hc
        exact ⟨_, hi, by rw [← Option.some.inj hc]⟩
      · rw [List.getElem?_set_ne e] at hc
        exact ⟨r, hc, rfl⟩
    obtain ⟨p', hp1, hp2⟩ := key a p ha
    obtain ⟨q', hq1, hq2⟩ := key b q hb'
    exact h.2.2.1 a b p' q' hp1 hq1 (hp2.trans (he.trans hq2.symm))
  · refine h.2.2.2.2 φ hφ W' ⟨hb.trans ho.1, fun k hkz hn => ?_⟩
    have hkg : k ≠ g := fun e => hn _ (List.mem_of_getElem? hi) e.symm
    refine (ho.2 k (by rw [hz]; exact hkz) (fun p hp => ?_)).trans (hk k hkg)
    rcases hmem p hp with rfl | ⟨hp, _⟩
    · exact fun e => hkg e.symm
    · exact hn p hp
theorem Hp.allocAt (h : Hp B w0 W L F) (o : Obj) (g : Nat) (hz : W.heap.size = g) : Hp B w0 (W.alloc o) ((g, o) :: L) F := by subst hz; exact h.alloc o
theorem Hp.setRow {i g t : Nat} {cur : Array Value} {fr : Nat × Nat} (h : Hp B w0 W L F) (hi : L[i]? = some (g, .cells cur t fr)) (cs : Array Value) : Hp B w0 (W.setRow g cs) (L.set i (g, .cells cs t fr)) F :=
  h.change hi ⟨rfl, rfl, rfl, by simp [World.setRow], fun k hk => by omega⟩ (by simp [World.setRow]) (setRow_heap _ _ _ _ _ _ (h.get hi)) (fun k hk => setRow_other _ _ _ _ hk)
theorem Hp.setCell {i g t : Nat} {cur : Array Value} (h : Hp B w0 W L F) (hi : L[i]? = some (g, .cells cur t (0, 0))) (j : Nat) (u : Value) : Hp B w0 (W.setCell ⟨g, j, none⟩ u) (L.set i (g, .cells (cur.setIfInBounds j u) t (0, 0))) F :=
  h.change hi ⟨rfl, rfl, rfl, by simp [World.setCell], fun k hk => by omega⟩ (by simp [World.setCell]) (blk_set (h.get hi) j u) (fun k hk => Below.heap_setCell _ _ _ _ hk)
theorem Hp.told {φ : World → Prop} (h : Hp B w0 W L F) (hb : Below W.heap.size W W1) (hst : ∀ W', Below 0 W1 W' → (∀ k, W.heap.size ≤ k → k < W1.heap.size → W'.heap[k]? = W1.heap[k]?) → φ W') : Hp B w0 W1 L (φ :: F) := by
  have h1 := h.call hb
  refine ⟨h1.1, h1.2.1, h1.2.2.1, h1.2.2.2.1, fun ψ hψ W' ho => ?_⟩
  rcases List.mem_cons.1 hψ with rfl | hψ
  · refine hst W' ho.1 (fun k hk1 hk2 => ho.2 k hk2 (fun p hp => ?_))
    have := blk_lt (h.2.1 p hp).1
    omega
  · exact h1.2.2.2.2 ψ hψ W' ho
theorem Hp.row {α : Type} {d : Kd α} {e : Nat} {ok : Nat → Prop} {v : Value} {xs : List α} (h : Hp B w0 W L F) (hb : Below W.heap.size W W1) (hr : d.R e W1 W.heap.size ok v xs) : Hp B w0 W1 L ((fun w => d.R e w B (fun _ => True) v xs) :: F) :=
  h.told hb (fun W' h0 hq => Kd.R_mono (Kd.R_lower (Kd.R_step (Kd.R_mono (Kd.R_bound hr) (fun k hk => (⟨hk.2.1, hk.2.2.1⟩ : W.heap.size ≤ k ∧ k < W1.heap.size))) (fun k hk hlt => hq k hk.1 hk.2)) h.le) (fun _ _ => trivial))
theorem Hp.found {g : Nat} {o : Obj} (h : Hp B w0 W L F) (hb : Below W.heap.size W W1) (hg : W.heap.size ≤ g) (ho : W1.heap[g]? = some o) : Hp B w0 W1 ((g, o) :: L) F := by
  have h1 := h.call hb
  refine ⟨h1.1, fun p hp => ?_, ?_, h1.2.2.2.1, fun φ hφ W' hw => ?_⟩
  · rcases List.mem_cons.1 hp with rfl | hp
    · exact ⟨ho, Nat.le_trans h.le hg⟩
    · exact h1.2.1 p hp
  · intro i j p q hi hj he
    match i, j, hi, hj with
    | 0, 0, _, _ => rfl
    | 0, j + 1, hi, hj =>
      obtain rfl : (g, o) = p := by simpa using hi
      have := blk_lt (h.2.1 q (List.mem_of_getElem? (by simpa using hj))).1
      simp only at he; omega
    | i + 1, 0, hi, hj =>
      obtain rfl : (g, o) = q := by simpa using hj
      have := blk_lt (h.2.1 p (List.mem_of_getElem? (by simpa using hi))).1
      simp only at he; omega
    | i + 1, j + 1, hi, hj => rw [h.2.2.1 i j p q (by simpa using hi) (by simpa using hj) he]
  · refine h.2.2.2.2 φ hφ W' ⟨(below_zero hb).trans hw.1, fun k hk hn => (hw.2 k (Nat.lt_of_lt_of_le hk hb.size) (fun p hp => ?_)).trans (hb.block k hk)⟩
    rcases List.mem_cons.1 hp with rfl | hp
    · simp only; omega
    · exact hn p hp
theorem Hp.drop {F' : List (World → Prop)} (h : Hp B w0 W L F) (hs : ∀ φ ∈ F', φ ∈ F) : Hp B w0 W L F' := ⟨h.1, h.2.1, h.2.2.1, h.2.2.2.1, fun φ hφ => h.2.2.2.2 φ (hs φ hφ)⟩
theorem Hp.rest {p : Nat × Obj} (h : Hp B w0 W (p :: L) F) : Hp B w0 W L F :=
  ⟨h.1, fun q hq => h.2.1 q (List.mem_cons_of_mem _ hq), (fun i j p q hi hj he => by have := h.2.2.1 (i + 1) (j + 1) p q (by simpa using hi) (by simpa using hj) he; omega), h.2.2.2.1, fun φ hφ W' ho => h.2.2.2.2 φ hφ W' ⟨ho.1, fun k hk hn => by
    refine ho.2 k hk (fun q hq => hn q (List.mem_cons_of_mem _ hq))⟩⟩
end
section
variable {P : Program}
theorem wpList_load_row_g {ops : Array Oper} {rest : List Oper} {o : Oper} {a : Act} {w : World} {Q : Exit → Act → World → Prop} (ty : TypeId) (x : Operand) (ho : o.op = .load ty x)
    (g : Nat) (hx : a.eval x = .pointer (some ⟨g, 0, none⟩)) (hgd : Region.wanted o (yielded ops a.tmps) = true) (t : TypeId) (cs : Array Value) (fr : Nat × Nat) (d : TypeDesc) (hg : w.heap[g]? = some (.cells cs t fr))
    (hu : P.underlying ty = some d) (hd : (match d with | .struct _ | .array _ _ => true | _ => false) = true) (hi : (P.info? ty).map (·.size) = some cs.size)
    (h : wpList P ops Q rest (a.put o.dst (.agg cs)) w) : wpList P ops Q (o :: rest) a w :=
  wpList_step fun K hK => by rw [if_pos hgd]; exact wp_load_row ty x ho g hx t cs fr d hg hu hd hi (hK _ _ h)
end
end Go.Proofs.Yticpjidcgaaldaa

namespace Go.Proofs.Yticpjidcgaaldaa
open Go.RowKit Go.Proofs.YticpjidcgaaldaaW.PrintWords Go.Proofs.YticpjidcgaaldaaW.PrintLast Go.Proofs.YticpjidcgaaldaaW.PrintMore
set_option linter.unusedVariables false
set_option linter.unusedSimpArgs false

def OkC (x : S59) : Prop := (Lit.int .i32 x.f0).wf = true ∧ (Lit.int .u32 x.f1).wf = true
def I64 (n : Int) : Prop := -9223372036854775808 ≤ n ∧ n ≤ 9223372036854775807
def U32 (n : Int) : Prop := 0 ≤ n ∧ n < 4294967296
def putF (f : Nat → S59) (j : Nat) (c : S59) : Nat → S59 := fun i => if i = j then c else f i
end Go.Proofs.Yticpjidcgaaldaa

namespace Go.Proofs.Yticpjidcgaaldaa
open Go.RowKit Go.Proofs.YticpjidcgaaldaaW.PrintWords Go.Proofs.YticpjidcgaaldaaW.PrintLast Go.Proofs.YticpjidcgaaldaaW.PrintMore
set_option linter.unusedVariables false
set_option linter.unusedSimpArgs false

set_option maxHeartbeats 1000000 in
theorem pbytes_any (base g : Nat) (p : List Int) (v : Value) (w : World) (hk : Pn w base g p v) (hl : p.length ≤ 1000000) :
    Calls Try.prog 40 #[.pointer (some ⟨g, 0, none⟩)] w fun e w' => ∃ vo, e = .returned vo ∧ (Kd.int .u8).R 5 w' w.heap.size (fun _ => True) vo p ∧ Below w.heap.size w w' := by
  have c0 := blk_cell hk.1 0
  obtain ⟨Q, d, hv⟩ := Kd.R_slice hk.2
  subst hv
  obtain ⟨r1, r2, r3⟩ := Rn_C hk.2
  have KEY := Aside0.mk (clone_any Q p.length d p w r3 (by omega))
  generalize p.length = m at *
  clear hk r1 r2 r3 hl
  go_enter Try.func40, Try.ntmps40
  go_wp2_with fail
  refine KEY.out.mono ?_
  rintro e w1 ⟨vo, rfl, h1, h2⟩
  have H1 := Aside0.mk h1
  have H2 := Aside0.mk h2
  clear h1 h2
  go_wp2_with fail
  go_ret
  exact ⟨_, rfl, H1.out, H2.out⟩
end Go.Proofs.Yticpjidcgaaldaa

namespace Go.Proofs.Yticpjidcgaaldaa
open Go.RowKit Go.Proofs.YticpjidcgaaldaaW.PrintWords Go.Proofs.YticpjidcgaaldaaW.PrintLast Go.Proofs.YticpjidcgaaldaaW.PrintMore
set_option linter.unusedVariables false
set_option linter.unusedSimpArgs false

def cellB (b : Bool) (x : S59) : List Int := (if b = true then lowN (x.f0 % 4294967296).toNat 4 else []) ++ lowN x.f1.toNat 4
theorem cellB_len (b : Bool) (x : S59) : (cellB b x).length ≤ 8 := by unfold cellB; cases b <;> simp [lowN_length]
end Go.Proofs.Yticpjidcgaaldaa

namespace Go.Proofs.Yticpjidcgaaldaa
open Go.RowKit Go.Proofs.YticpjidcgaaldaaW.PrintWords Go.Proofs.YticpjidcgaaldaaW.PrintLast Go.Proofs.YticpjidcgaaldaaW.PrintMore
set_option linter.unusedVariables false

end Go.Proofs.Yticpjidcgaaldaa

namespace Go.Proofs.Yticpjidcgaaldaa
open Go.RowKit Go.Proofs.YticpjidcgaaldaaW.PrintWords Go.Proofs.YticpjidcgaaldaaW.PrintLast Go.Proofs.YticpjidcgaaldaaW.PrintMore
set_option linter.unusedVariables false

def risB : Int → List Int → Bool
  | _, [] => true
  | a, x :: l => decide (a < x) && decide (x < 48) && risB x l
theorem risB_cons (a x : Int) (l : List Int) : risB a (x :: l) = (decide (a < x) && decide (x < 48) && risB x l) := rfl
def rightB (P : List Int) (m : Nat) : Bool := risB (-1) P && P.length == m
def prevP (P : List Int) (i : Nat) : Int := if i = 0 then -1 else P.getD (i - 1) 0
theorem right_l0 (P : List Int) (C : List S59) (a b : Int) (hP : Bytes P) (hl : P.length < 4611686018427387904) : ∀ (d k i : Nat), i + d = P.length → d < k →
    delta_Delta_right.l0 k P (P.length : Int) (i : Int) a b P C = some (risB (prevP P i) (P.drop i) && (P.length == C.length))
  | 0, k + 1, i, h, _ => by
    unfold delta_Delta_right.l0
    rw [if_neg (by omega), List.drop_of_length_le (by omega)]
    unfold risB
    rw [Bool.true_and]
    congr 1
    rw [Bool.eq_iff_iff]
    simp
    omega
  | d + 1, k + 1, i, h, hk => by
    have hi : i < P.length := by omega
    have hx := hP _ (List.getElem_mem hi)
    unfold delta_Delta_right.l0
    rw [if_pos (by omega), if_pos (by omega), if_pos (by omega), rd_getElem hi, w64 (n := P[i]) (by omega), List.drop_eq_getElem_cons hi]
    by_cases h48 : P[i] ≥ 48
    · rw [if_pos h48]
      rw [risB_cons, decide_eq_false (p := P[i] < 48) (by omega)]
      simp
    · rw [if_neg h48]
      have hd48 : decide (P[i] < 48) = true := decide_eq_true (by omega)
      have ih := right_l0 P C a b hP hl d k (i + 1) (by omega) (by omega)
      have hn : wrap64 ((i : Int) + 1) = ((i + 1 : Nat) : Int) := next64 (by omega)
      have hpi : prevP P (i + 1) = P[i] := by
        unfold prevP
        rw [if_neg (by omega), Nat.add_sub_cancel, List.getD_eq_getElem?_getD, List.getElem?_eq_getElem hi]; rfl
      rw [hpi] at ih
      by_cases h0 : i = 0
      · subst h0
        rw [if_neg (by simp), hn, ih]
        rw [risB_cons]
        have e0 : prevP P 0 = -1 := rfl
        rw [e0, decide_eq_true (p := (-1 : Int) < P[0]) (by omega), hd48]
        simp
      · have e1 : wrap64 ((i : Int) - 1) = ((i - 1 : Nat) : Int) := by unfold wrap64; omega
        have hi1 : i - 1 < P.length := by omega
        have e2 : prevP P i = P[i - 1] := by
          unfold prevP
          rw [if_neg h0, List.getD_eq_getElem?_getD, List.getElem?_eq_getElem hi1]; rfl
        rw [if_pos (by omega), e1, if_pos (by omega), if_pos (by omega), rd_getElem hi1, e2]
        by_cases hle : P[i] ≤ P[i - 1]
        · rw [if_pos hle]
          rw [risB_cons, decide_eq_false (p := P[i - 1] < P[i]) (by omega)]
          simp
        · rw [if_neg hle, hn, ih]
          rw [risB_cons, decide_eq_true (p := P[i - 1] < P[i]) (by omega), hd48]
          simp
theorem right_any (tk hs : Int) (A A2 : Option Addr) (c c2 : Nat) (P : List Int) (C : List S59) (w : World) (hp : (Kd.int .u8).C w A P.length P) (hc : P.length ≤ c) (hC : k59.C w A2 C.length C) (hc2 : C.length ≤ c2) (hP : Bytes P) (hl : P.length < 4611686018427387904) :
    Calls Try.prog 72 #[.agg #[.int .u32 tk, .int .u32 hs, .slice A P.length c, .slice A2 C.length c2]] w fun e w' => e = .returned (.bool (rightB P C.length)) ∧ Below w.heap.size w w' :=
  delta_Delta_right.calls (P.length + 1) tk hs A c P A2 c2 C (rightB P C.length) w hp hc hC hc2 (by
    have := right_l0 P C tk hs hP hl P.length (P.length + 1) 0 (by omega) (by omega)
    unfold delta_Delta_right.f
    rw [show ((0 : Nat) : Int) = 0 by rfl] at this
    rw [this, List.drop_zero]; rfl)

def dCell (x : Int × S59) : List Int := x.1 :: cellB true x.2
def dRows (P : List Int) (C : List S59) : List Int := ((P.zip C).map dCell).flatten
def dHead (tk hs n : Nat) : List Int := lowN tk 4 ++ lowN hs 4 ++ [((n % 256 : Nat) : Int)]
def dBytes (tk hs : Nat) (P : List Int) (C : List S59) : List Int := dHead tk hs P.length ++ dRows P C
theorem risB_le : ∀ {P : List Int} {a : Int}, -1 ≤ a → a < 48 → risB a P = true → (P.length : Int) ≤ 47 - a ∧ Bytes P ∧ ∀ x ∈ P, x < 48
  | [], a, _, _, h => ⟨by simp; omega, Bytes.nil, fun x hx => by cases hx⟩
  | x :: l, a, h0, h1, h => by
    unfold risB at h
    simp only [Bool.and_eq_true, decide_eq_true_eq] at h
    obtain ⟨⟨h2, h3⟩, h4⟩ := h
    obtain ⟨k1, k2, k3⟩ := risB_le (P := l) (a := x) (by omega) h3 h4
    refine ⟨by simp only [List.length_cons]; omega, fun y hy => ?_, fun y hy => ?_⟩
    · rcases List.mem_cons.1 hy with rfl | hy
      · omega
      · exact k2 y hy
    · rcases List.mem_cons.1 hy with rfl | hy
      · exact h3
      · exact k3 y hy
theorem dRows_succ {P : List Int} {C : List S59} {i : Nat} (hp : i < P.length) (hc : i < C.length) : dRows (P.take (i + 1)) (C.take (i + 1)) = dRows (P.take i) (C.take i) ++ (P[i] :: cellB true C[i]) := by
  unfold dRows
  rw [take_snoc hp, take_snoc hc, List.zip_append (by simp; omega), List.map_append, List.flatten_append]
  simp [dCell]
theorem dRows_len (P : List Int) (C : List S59) : (dRows P C).length ≤ 9 * P.length := by
  unfold dRows
  induction P generalizing C with
  | nil => simp
  | cons x l ih =>
    cases C with
    | nil => simp
    | cons y m =>
      have := ih m
      have h2 := cellB_len true y
      simp only [List.zip_cons_cons, List.map_cons, List.flatten_cons, List.length_append, List.length_cons, dCell] at this ⊢
      omega
end Go.Proofs.Yticpjidcgaaldaa

namespace Go.Proofs.Yticpjidcgaaldaa
open Go.RowKit Go.Proofs.YticpjidcgaaldaaW.PrintWords Go.Proofs.YticpjidcgaaldaaW.PrintLast Go.Proofs.YticpjidcgaaldaaW.PrintMore
set_option linter.unusedVariables false

structure Inv3 (ops : Array Oper) (a0 : Act) (C : World → Prop) (V : Nat → World → Value → Prop) (X : Nat → World → (Nat → Value) → Prop) (U : Nat → World → Prop) (L : Nat → Bool) (vs : Nat → Value) (a : Act) (w : World) : Prop where
  cls : C w
  defers : a.defers = a0.defers
  size : a.tmps.size = a0.tmps.size
  slot : ∀ s, a.tmps.getD s undef = look ops a0 L vs s
  val : ∀ i, i < ops.size → L i = true → V i w (vs i)
  ext : ∀ i, i < ops.size → L i = true → X i w vs
  unl : ∀ i, i < ops.size → L i = false → U i w
  closed : ∀ i o, ops[i]? = some o → L i = true → ∀ j, depOn o j = true → L j = true
section
variable {P : Program} {ops : Array Oper} {Q : Exit → Act → World → Prop} {a0 : Act} {C : World → Prop} {Step : Nat → World → World → Prop} {V : Nat → World → Value → Prop} {X : Nat → World → (Nat → Value) → Prop} {U : Nat → World → Prop} {yv : Nat → Option Bool}
variable (hok : regionOk ops a0.tmps.size = true)
  (hrefl : ∀ i w, Step i w w)
  (hstab : ∀ q i w w' v, i < ops.size → i ≠ q → Step q w w' → V i w v → V i w' v)
  (hstabX : ∀ q i w w' vs, i < ops.size → i ≠ q → Step q w w' → X i w vs → X i w' vs)
  (hstabU : ∀ q i o w w', ops[q]? = some o → depOn o i = false → i < ops.size → i ≠ q → Step q w w' → U i w → U i w')
  (hloc : ∀ i o w (vs vs' : Nat → Value), ops[i]? = some o → (∀ j, (j = i ∨ depOn o j = true) → vs j = vs' j) → X i w vs → X i w vs')
  (hyv : ∀ (i : Nat) (o : Oper) (j : Nat) (b : Bool), ops[i]? = some o → o.guard = some (j, b) → ∀ w v, V j w v → boolOf v = yv j)
  (hop : ∀ i o, ops[i]? = some o → ∀ (vs : Nat → Value) w, C w → (∀ j, depOn o j = true → V j w (vs j) ∧ X j w vs) → U i w → (∀ k o', ops[k]? = some o' → depOn o' i = true → U k w) →
    if wants yv o = true then runs P o (rho ops a0 (depOn o) vs) w (fun v w' => C w' ∧ Step i w w' ∧ V i w' v ∧ X i w' (fun k => if k = i then v else vs k)) else V i w undef ∧ X i w (fun k => if k = i then undef else vs k))
  (hend : ∀ (vs : Nat → Value) w a, C w → (∀ i, i < ops.size → V i w (vs i)) → (∀ i, i < ops.size → X i w vs) → a.defers = a0.defers → a.tmps.size = a0.tmps.size → (∀ s, a.tmps.getD s undef = look ops a0 (fun _ => true) vs s) → Q .normal a w)
include hend in
include hok hrefl hstab hstabX hstabU hloc hyv hop hend in
end
end Go.Proofs.Yticpjidcgaaldaa

namespace Go.Proofs.Yticpjidcgaaldaa
open Go.RowKit Go.Proofs.YticpjidcgaaldaaW.PrintWords Go.Proofs.YticpjidcgaaldaaW.PrintLast Go.Proofs.YticpjidcgaaldaaW.PrintMore
set_option linter.unusedVariables false

structure Inv2 (ops : Array Oper) (a0 : Act) (C : World → Prop) (V : Nat → World → Value → Prop) (X : Nat → World → (Nat → Value) → Prop) (L : Nat → Bool) (vs : Nat → Value) (a : Act) (w : World) : Prop where
  cls : C w
  defers : a.defers = a0.defers
  size : a.tmps.size = a0.tmps.size
  slot : ∀ s, a.tmps.getD s undef = look ops a0 L vs s
  val : ∀ i, i < ops.size → L i = true → V i w (vs i)
  ext : ∀ i, i < ops.size → L i = true → X i w vs
  closed : ∀ i o, ops[i]? = some o → L i = true → ∀ j, depOn o j = true → L j = true
section
variable {P : Program} {ops : Array Oper} {Q : Exit → Act → World → Prop} {a0 : Act} {C : World → Prop} {Step : World → World → Prop} {V : Nat → World → Value → Prop} {X : Nat → World → (Nat → Value) → Prop} {yv : Nat → Option Bool}
variable (hok : regionOk ops a0.tmps.size = true)
  (hrefl : ∀ w, Step w w)
  (hstab : ∀ i w w' v, i < ops.size → Step w w' → V i w v → V i w' v)
  (hstabX : ∀ i w w' vs, i < ops.size → Step w w' → X i w vs → X i w' vs)
  (hloc : ∀ i o w (vs vs' : Nat → Value), ops[i]? = some o → (∀ j, (j = i ∨ depOn o j = true) → vs j = vs' j) → X i w vs → X i w vs')
  (hyv : ∀ (i : Nat) (o : Oper) (j : Nat) (b : Bool), ops[i]? = some o → o.guard = some (j, b) → ∀ w v, V j w v → boolOf v = yv j)
  (hop : ∀ i o, ops[i]? = some o → ∀ (vs : Nat → Value) w, C w → (∀ j, depOn o j = true → V j w (vs j) ∧ X j w vs) →
    if wants yv o = true then runs P o (rho ops a0 (depOn o) vs) w (fun v w' => C w' ∧ Step w w' ∧ V i w' v ∧ X i w' (fun k => if k = i then v else vs k)) else V i w undef ∧ X i w (fun k => if k = i then undef else vs k))
  (hend : ∀ (vs : Nat → Value) w a, C w → (∀ i, i < ops.size → V i w (vs i)) → (∀ i, i < ops.size → X i w vs) → a.defers = a0.defers → a.tmps.size = a0.tmps.size → (∀ s, a.tmps.getD s undef = look ops a0 (fun _ => true) vs s) → Q .normal a w)
include hend in
include hok hrefl hstab hstabX hloc hyv hop hend in
end

def Fills (B : Nat) (Z F : Obj) (w w' : World) : Prop := Below 0 w w' ∧ ∀ k, k < w.heap.size → w'.heap[k]? = w.heap[k]? ∨ (B ≤ k ∧ w.heap[k]? = some Z ∧ w'.heap[k]? = some F)
theorem Fills.of_below {B : Nat} {Z F : Obj} {w w' : World} (h : Below w.heap.size w w') : Fills B Z F w w' := ⟨h.mono (Nat.zero_le _), fun k hk => .inl (h.block k hk)⟩
theorem runs_store_row {P : Program} {o : Oper} {ρ : Operand → Value} {w : World} {R : Value → World → Prop} (ty : TypeId) (x y : Operand) (ho : o.op = .store ty x y)
    (g : Nat) (cs : Array Value) (hx : ρ x = .pointer (some ⟨g, 0, none⟩)) (hy : ρ y = .agg cs) (t : TypeId) (cur : Array Value) (hg : w.heap[g]? = some (.cells cur t (0, 0))) (hz : (P.info? ty).map (·.size) = some cs.size) (hs : cur.size = cs.size) (h1 : cs.all (fun v => v.oneCell') = true)
    (hR : R undef (w.setRow g cs)) : runs P o ρ w R := by
  unfold runs execOp
  simp only [ho, hx, hy, Instr.storeAt, Instr.sureAddr, Sem.run_bind, Sem.run_pure, Result.andThen_ok, run_storeVar_row w g t ty cur cs hg hz hs h1]
  exact hR

def StabF (B : Nat) (Z F : Obj) : List (World → Value → Prop) → Prop
  | [] => True
  | p :: l => (∀ (w w' : World) v, Fills B Z F w w' → p w v → p w' v) ∧ StabF B Z F l
theorem StabF.at_ {B : Nat} {Z F : Obj} (l : List (World → Value → Prop)) : ∀ (i : Nat), StabF B Z F l → ∀ (w w' : World) v, Fills B Z F w w' → (l.getD i fun _ _ => True) w v → (l.getD i fun _ _ => True) w' v := by
  induction l with
  | nil => intro i _ w w' v _ h; simp
  | cons p l ih =>
    intro i hs w w' v hb h
    cases i with
    | zero => exact hs.1 w w' v hb h
    | succ i => exact ih i hs.2 w w' v hb h
def Made (B : Nat) (Z F : Obj) (w : World) (v : Value) : Prop := ∃ g, v = .pointer (some ⟨g, 0, none⟩) ∧ B ≤ g ∧ (w.heap[g]? = some Z ∨ w.heap[g]? = some F)
theorem Made.stab {B : Nat} {Z F : Obj} (w w' : World) (v : Value) (hf : Fills B Z F w w') (h : Made B Z F w v) : Made B Z F w' v := by
  obtain ⟨g, e, hg, h⟩ := h
  refine ⟨g, e, hg, ?_⟩
  rcases h with h | h
  · rcases hf.2 g (blk_lt h) with e | ⟨_, _, e⟩
    · exact .inl (e.trans h)
    · exact .inr e
  · rcases hf.2 g (blk_lt h) with e | ⟨_, _, e⟩
    · exact .inr (e.trans h)
    · exact .inr e
def HopF (P : Program) (ops : Array Oper) (a0 : Act) (yv : Nat → Option Bool) (W : World) (ia is : Nat) (Z F : Array Value) (T : TypeId) (V : Nat → World → Value → Prop) (i : Nat) (o : Oper) : Prop :=
  ∀ (vs : Nat → Value) (w : World), Below W.heap.size W w → (∀ j, depOn o j = true → V j w (vs j)) →
    if i = is then ∀ g cur, vs ia = .pointer (some ⟨g, 0, none⟩) → w.heap[g]? = some (.cells cur T (0, 0)) → cur.size = F.size → runs P o (rho ops a0 (depOn o) vs) w (fun _ w' => w' = w.setRow g F)
    else if wants yv o = true then runs P o (rho ops a0 (depOn o) vs) w (fun v w' => Below w.heap.size w w' ∧ V i w' v) else V i w undef
def HopFAll (P : Program) (ops : Array Oper) (a0 : Act) (yv : Nat → Option Bool) (W : World) (ia is : Nat) (Z F : Array Value) (T : TypeId) (V : Nat → World → Value → Prop) : Nat → List Oper → Prop
  | _, [] => True
  | i, o :: l => HopF P ops a0 yv W ia is Z F T V i o ∧ HopFAll P ops a0 yv W ia is Z F T V (i + 1) l
theorem HopFAll.at_ {P : Program} {ops : Array Oper} {a0 : Act} {yv : Nat → Option Bool} {W : World} {ia is : Nat} {Z F : Array Value} {T : TypeId} {V : Nat → World → Value → Prop} (l : List Oper) : ∀ (k i : Nat) (o : Oper), HopFAll P ops a0 yv W ia is Z F T V k l → l[i]? = some o → HopF P ops a0 yv W ia is Z F T V (k + i) o := by
  induction l with
  | nil => intro k i o _ ho; simp at ho
  | cons o' l ih =>
    intro k i o h ho
    cases i with
    | zero =>
      have e : o' = o := by simpa using ho
      subst e
      exact h.1
    | succ i =>
      have h2 := ih (k + 1) i o h.2 (by simpa using ho)
      rw [show k + (i + 1) = k + 1 + i by omega]
      exact h2
end Go.Proofs.Yticpjidcgaaldaa

namespace Go.Proofs.Yticpjidcgaaldaa
open Go.RowKit Go.Proofs.YticpjidcgaaldaaW.PrintWords Go.Proofs.YticpjidcgaaldaaW.PrintLast Go.Proofs.YticpjidcgaaldaaW.PrintMore
set_option linter.unusedVariables false

abbrev Writes := List (Nat × Option Nat × (World → World → Prop))
def StepW : Writes → Nat → World → World → Prop
  | [], _, w, w' => Below w.heap.size w w'
  | (k, row, E) :: l, q, w, w' => if q = k then (w.grownBy w' row ∧ E w w') ∨ w' = w else StepW l q w w'
theorem StepW.refl : ∀ (l : Writes) (q : Nat) (w : World), StepW l q w w
  | [], _, w => Below.refl _ _
  | (k, row, E) :: l, q, w => by
    unfold StepW
    split
    · exact .inr rfl
    · exact StepW.refl l q w
def StabW (i : Nat) (p : World → Value → Prop) : Writes → Prop
  | [] => ∀ w w' v, Below w.heap.size w w' → p w v → p w' v
  | (k, row, E) :: l => (k ≠ i → ∀ w w' v, w.grownBy w' row → E w w' → p w v → p w' v) ∧ StabW i p l
theorem StabW.step {i : Nat} {p : World → Value → Prop} : ∀ {l : Writes} {q : Nat} {w w' : World} {v : Value}, StabW i p l → i ≠ q → StepW l q w w' → p w v → p w' v
  | [], q, w, w', v, h, hne, hs, hp => h w w' v hs hp
  | (k, row, E) :: l, q, w, w', v, h, hne, hs, hp => by
    unfold StepW at hs
    split at hs
    · rename_i e
      rcases hs with ⟨hg, he⟩ | rfl
      · exact h.1 (fun e2 => hne (by rw [e, e2])) w w' v hg he hp
      · exact hp
    · exact h.2.step hne hs hp
theorem StabW.const {i : Nat} {p : Value → Prop} : ∀ (l : Writes), StabW i (fun _ v => p v) l
  | [] => fun _ _ _ _ h => h
  | (k, row, E) :: l => ⟨fun _ _ _ _ _ _ h => h, StabW.const l⟩
def StabU (ops : Array Oper) (i : Nat) (p : World → Prop) : Writes → Prop
  | [] => ∀ w w', Below w.heap.size w w' → p w → p w'
  | (k, row, E) :: l => (k ≠ i → (∀ o, ops[k]? = some o → depOn o i = false) → ∀ w w', w.grownBy w' row → E w w' → p w → p w') ∧ StabU ops i p l
theorem StabU.step {ops : Array Oper} {i : Nat} {p : World → Prop} : ∀ {l : Writes} {q : Nat} {w w' : World} {o : Oper}, StabU ops i p l → i ≠ q → ops[q]? = some o → depOn o i = false → StepW l q w w' → p w → p w'
  | [], q, w, w', o, h, hne, ho, hd, hs, hp => h w w' hs hp
  | (k, row, E) :: l, q, w, w', o, h, hne, ho, hd, hs, hp => by
    unfold StepW at hs
    split at hs
    · rename_i e
      rcases hs with ⟨hg, he⟩ | rfl
      · refine h.1 (fun e2 => hne (by rw [e, e2])) (fun o2 ho2 => ?_) w w' hg he hp
        rw [← e, ho] at ho2
        rw [← Option.some.inj ho2]; exact hd
      · exact hp
    · exact h.2.step hne ho hd hs hp
theorem StabU.true {ops : Array Oper} {i : Nat} : ∀ (l : Writes), StabU ops i (fun _ => True) l
  | [] => fun _ _ _ h => h
  | (k, row, E) :: l => ⟨fun _ _ _ _ _ _ h => h, StabU.true l⟩
structure Op3 where
  V : World → Value → Prop
  X : Option (Nat × (World → Value → Prop))
  U : World → Prop
def op0 : Op3 := ⟨fun _ _ => True, none, fun _ => True⟩
def Op3.Xp (x : Op3) : World → (Nat → Value) → Prop := match x.X with | none => fun _ _ => True | some (j, p) => fun w vs => p w (vs j)
def Op3.stab (ops : Array Oper) (wr : Writes) (i : Nat) (x : Op3) : Prop :=
  StabW i x.V wr ∧ (match x.X with | none => True | some (j, p) => StabW i p wr ∧ (∀ o, ops[i]? = some o → depOn o j = true)) ∧ StabU ops i x.U wr
def stabAll (ops : Array Oper) (wr : Writes) : Nat → List Op3 → Prop
  | _, [] => True
  | i, x :: l => x.stab ops wr i ∧ stabAll ops wr (i + 1) l
theorem stabAll.at_ {ops : Array Oper} {wr : Writes} : ∀ (l : List Op3) (k i : Nat), stabAll ops wr k l → (l.getD i op0).stab ops wr (k + i)
  | [], k, i, _ => by
    have : ([] : List Op3).getD i op0 = op0 := by simp
    rw [this]
    exact ⟨StabW.const _, trivial, StabU.true _⟩
  | x :: l, k, 0, h => h.1
  | x :: l, k, i + 1, h => by
    have := stabAll.at_ l (k + 1) i h.2
    rw [List.getD_cons_succ]
    rw [show k + 1 + i = k + (i + 1) by omega] at this
    exact this
section
variable (P : Program) (ops : Array Oper) (a0 : Act) (yv : Nat → Option Bool) (C : World → Prop) (wr : Writes) (L : List Op3)
def Hop3 (i : Nat) (o : Oper) : Prop :=
  ∀ (vs : Nat → Value) w, C w → (∀ j, depOn o j = true → (L.getD j op0).V w (vs j) ∧ (L.getD j op0).Xp w vs) → (L.getD i op0).U w → (∀ k o', ops[k]? = some o' → depOn o' i = true → (L.getD k op0).U w) →
    if wants yv o = true then runs P o (rho ops a0 (depOn o) vs) w (fun v w' => C w' ∧ StepW wr i w w' ∧ (L.getD i op0).V w' v ∧ (L.getD i op0).Xp w' (fun k => if k = i then v else vs k)) else (L.getD i op0).V w undef ∧ (L.getD i op0).Xp w (fun k => if k = i then undef else vs k)
def Hop3All : Nat → List Oper → Prop
  | _, [] => True
  | i, o :: l => Hop3 P ops a0 yv C wr L i o ∧ Hop3All (i + 1) l
end
theorem Hop3All.at_ {P : Program} {ops : Array Oper} {a0 : Act} {yv : Nat → Option Bool} {C : World → Prop} {wr : Writes} {L : List Op3} : ∀ (l : List Oper) (k i : Nat) (o : Oper), Hop3All P ops a0 yv C wr L k l → l[i]? = some o → Hop3 P ops a0 yv C wr L (k + i) o
  | [], k, i, o, _, h => by simp at h
  | x :: l, k, 0, o, h, ho => by
    obtain rfl : x = o := by simpa using ho
    exact h.1
  | x :: l, k, i + 1, o, h, ho => by
    have := Hop3All.at_ l (k + 1) i o h.2 (by simpa using ho)
    rw [show k + 1 + i = k + (i + 1) by omega] at this
    exact this
theorem runs_append {P : Program} {α : Type} (d : Kd α) {Rr : α → List Value → Prop} {o : Oper} {ρ : Operand → Value} {W : World} {R : Value → World → Prop} (base : Nat) (s x : Tmp) (t e : TypeId) (z : Value) (bytes : Nat)
    (ho : o.op = .call { callee := .builtin .append, args := #[.tmp s, .tmp x], argTypes := #[t, t] })
    (ht : P.underlying t = some (.slice e)) (hinfo : (P.info? e).map (fun i => (i.zero, i.size, i.bytes)) = some (some z, d.sz, bytes)) (hz : z.cells.size = d.sz) (hs0 : 0 < d.sz) (hb0 : 0 < bytes)
    (v : Value) (xs ys : List α) (A : Option Addr) (m c : Nat) (ok okp : Nat → Prop) (hs : ρ (.tmp s) = v) (hx : ρ (.tmp x) = .slice A m c)
    (HO : d.R e W base ok v xs) (HR : ReadsRow Rr d.sz W A m ys) (hKM : ∀ x cs, Rr x cs → d.M W base okp x cs) (hokp : ∀ k, okp k → ok k ∧ some k ≠ v.ownBlock) (hfresh : ∀ k, W.heap.size ≤ k → ok k)
    (hbase : base ≤ W.heap.size) (hl : (xs.length + m) * bytes ≤ 140737488355328)
    (h : ∀ v1 w1, d.R e w1 base ok v1 (xs ++ ys) → W.grownBy w1 v.ownBlock → (v1.ownBlock = v.ownBlock ∨ ∃ b, v1.ownBlock = some b ∧ W.heap.size ≤ b) → R v1 w1) : runs P o ρ W R := by
  obtain ⟨N, hN, hN0, hN1⟩ : ∃ N : Act, N.tmps.size = 2 ∧ N.eval (.tmp 0) = v ∧ N.eval (.tmp 1) = .slice A m c := ⟨⟨#[v, .slice A m c], []⟩, rfl, rfl, rfl⟩
  let o' : Oper := { o with dst := some 0, guard := none, op := .call { callee := .builtin .append, args := #[.tmp 0, .tmp 1], argTypes := #[t, t] } }
  have key := Kd.R_append_rows_step (P := P) (o := o') (a := N) (ops := #[]) (Kc := fun a' w' => R (a'.tmps.getD 0 undef) w') (Q := fun _ _ _ => False) (w0 := W) d (Rr := Rr) base (by simp [Region.wanted, o']) (.tmp 0) (.tmp 1) t e z bytes rfl ht hinfo hz hs0 hb0 v xs ys A m c ok okp hN0 hN1 HO HR hKM hokp hfresh (Below.refl _ _) hbase hl
    (fun v1 w1 h1 _ h3 h4 => by
      have e0 : ((N.put o'.dst v1).tmps.getD 0 undef) = v1 := by simp [Act.put, o', Array.getD, hN]
      show R ((N.put o'.dst v1).tmps.getD 0 undef) w1
      rw [e0]; exact h v1 w1 h1 h3 h4)
  rw [if_pos (by simp [Region.wanted, o'])] at key
  have e0 : ∀ v1, ((N.put o'.dst v1).tmps.getD 0 undef) = v1 := fun v1 => by simp [Act.put, o', Array.getD, hN]
  unfold runs
  unfold Oper.wp at key
  have e1 : (execOp ρ o).run P W = ((Builtin.append_ #[t, t] o.type #[v, .slice A m c]).run P W).andThen (fun u w' => .ok (Next.value u) w') := by
    unfold execOp
    simp only [ho, resolve, invoke, builtin, Sem.run_bind, Sem.run_pure, Result.andThen_ok, List.map_toArray, List.map_cons, List.map_nil, hs, hx]
  have e2 : (execOp N.eval o').run P W = ((Builtin.append_ #[t, t] o.type #[v, .slice A m c]).run P W).andThen (fun u w' => .ok (Next.value u) w') := by
    unfold execOp
    simp only [o', resolve, invoke, builtin, Sem.run_bind, Sem.run_pure, Result.andThen_ok, List.map_toArray, List.map_cons, List.map_nil, hN0, hN1]
  rw [e1]
  rw [e2] at key
  generalize (Builtin.append_ #[t, t] o.type #[v, .slice A m c]).run P W = r at *
  cases r with
  | ok u w' =>
    simp only [Result.andThen_ok] at key ⊢
    rw [Oper.upon_value, e0] at key
    exact key
  | halt x w' => cases x <;> exact key.elim

theorem grown_setCell (w : World) (g j : Nat) (u : Value) : w.grownBy (w.setCell ⟨g, j, none⟩ u) (some g) := ⟨rfl, rfl, rfl, by simp [World.setCell], fun k _ hk => Below.heap_setCell _ _ _ _ (fun e => hk (by rw [e]))⟩
theorem grown_setRow (w : World) (g : Nat) (cs : Array Value) : w.grownBy (w.setRow g cs) (some g) := ⟨rfl, rfl, rfl, by simp [World.setRow], fun k _ hk => setRow_other _ _ _ _ (fun e => hk (by rw [e]))⟩
end Go.Proofs.Yticpjidcgaaldaa

namespace Go.Proofs.Yticpjidcgaaldaa
open Go.RowKit Go.Proofs.YticpjidcgaaldaaW.PrintWords Go.Proofs.YticpjidcgaaldaaW.PrintLast Go.Proofs.YticpjidcgaaldaaW.PrintMore
set_option linter.unusedVariables false

def Cl2 (B : Nat) (W : World) (gd : Nat) (T : TypeId) (x0 x1 : Value) (rP rC : Option Nat) (z : World) : Prop :=
  Below B W z ∧ (∃ c2 c3, z.heap[gd]? = some (.cells #[x0, x1, c2, c3] T (0, 0))) ∧ B ≤ W.heap.size ∧ ∀ k, k < W.heap.size → k ≠ gd → some k ≠ rP → some k ≠ rC → z.heap[k]? = W.heap[k]?
section
variable {B gd : Nat} {W z z' : World} {T : TypeId} {x0 x1 : Value} {rP rC : Option Nat}
theorem Cl2.le (h : Cl2 B W gd T x0 x1 rP rC z) : B ≤ z.heap.size := Nat.le_trans h.2.2.1 h.1.size
theorem Cl2.below (h : Cl2 B W gd T x0 x1 rP rC z) (hb : Below z.heap.size z z') : Cl2 B W gd T x0 x1 rP rC z' := by
  obtain ⟨c2, c3, h2⟩ := h.2.1
  exact ⟨h.1.trans (hb.mono h.le), ⟨c2, c3, blk_below h2 hb⟩, h.2.2.1, fun k hk h1 h2 h3 => (hb.block k (Nat.lt_of_lt_of_le hk h.1.size)).trans (h.2.2.2 k hk h1 h2 h3)⟩
theorem Cl2.row {row : Option Nat} (h : Cl2 B W gd T x0 x1 rP rC z) (hg : z.grownBy z' row) (hr : row = rP ∨ row = rC) (hb : ∀ k, row = some k → B ≤ k) (hne : some gd ≠ row) : Cl2 B W gd T x0 x1 rP rC z' := by
  obtain ⟨c2, c3, h2⟩ := h.2.1
  refine ⟨h.1.grown hg h.le hb, ⟨c2, c3, (hg.block gd (blk_lt h2) hne).trans h2⟩, h.2.2.1, fun k hk h1 h2 h3 => (hg.block k (Nat.lt_of_lt_of_le hk h.1.size) (fun e => ?_)).trans (h.2.2.2 k hk h1 h2 h3)⟩
  rcases hr with hr | hr
  · exact h2 (by rw [e, hr])
  · exact h3 (by rw [e, hr])
end
theorem Hp.rows {B g : Nat} {w0 W W1 : World} {o o' : Obj} {L : List (Nat × Obj)} {r1 r2 : Option Nat} (h : Hp B w0 W ((g, o) :: L) []) (hb : Below B W W1) (hg : W1.heap[g]? = some o')
    (hk : ∀ k, k < W.heap.size → k ≠ g → some k ≠ r1 → some k ≠ r2 → W1.heap[k]? = W.heap[k]?) (hr : ∀ p ∈ L, some p.1 ≠ r1 ∧ some p.1 ≠ r2) : Hp B w0 W1 ((g, o') :: L) [] := by
  refine ⟨h.1.trans hb, fun p hp => ?_, ?_, Nat.le_trans h.le hb.size, fun φ hφ => by cases hφ⟩
  · rcases List.mem_cons.1 hp with rfl | hp
    · exact ⟨hg, h.ge (i := 0) rfl⟩
    · obtain ⟨i, hi⟩ := List.getElem?_of_mem hp
      have hi1 : ((g, o) :: L)[i + 1]? = some (p.1, p.2) := by simpa using hi
      refine ⟨(hk p.1 (h.lt hi1) (fun e => ?_) (hr p hp).1 (hr p hp).2).trans (h.get hi1), h.ge hi1⟩
      have := h.2.2.1 (i + 1) 0 p (g, o) (by simpa using hi) rfl e
      omega
  · intro i j p q hi hj he
    have key : ∀ (c : Nat) (r : Nat × Obj), ((g, o') :: L)[c]? = some r → ∃ r', ((g, o) :: L)[c]? = some r' ∧ r'.1 = r.1 := by
      intro c r hc
      match c, hc with
      | 0, hc => exact ⟨_, rfl, by rw [← Option.some.inj hc]⟩
      | c + 1, hc => exact ⟨r, hc, rfl⟩
    obtain ⟨p', hp1, hp2⟩ := key i p hi
    obtain ⟨q', hq1, hq2⟩ := key j q hj
    exact h.2.2.1 i j p' q' hp1 hq1 (hp2.trans (he.trans hq2.symm))
structure Apart2 (z : World) (gd : Nat) (vP vC : Value) : Prop where
  gp : some gd ≠ vP.ownBlock
  gc : some gd ≠ vC.ownBlock
  pc : ∀ k, vP.ownBlock = some k → some k ≠ vC.ownBlock
  new : ∀ b, z.heap.size ≤ b → some b ≠ vP.ownBlock ∧ some b ≠ vC.ownBlock ∧ some b ≠ some gd
section
variable {z : World} {gd : Nat} {vP vC : Value}
end
end Go.Proofs.Yticpjidcgaaldaa

namespace Go.Proofs.Yticpjidcgaaldaa
open Go.RowKit Go.Proofs.YticpjidcgaaldaaW.PrintWords Go.Proofs.YticpjidcgaaldaaW.PrintLast Go.Proofs.YticpjidcgaaldaaW.PrintMore
set_option linter.unusedVariables false
set_option linter.unusedSimpArgs false

theorem rdT25_get {L : List S59} {j : Nat} (h : j < L.length) : rd_T59 L (j : Int) = L[j] := by
  unfold rd_T59; rw [List.getD_eq_getElem?_getD, Int.toNat_natCast, List.getElem?_eq_getElem h]; rfl
end Go.Proofs.Yticpjidcgaaldaa

namespace Go.Proofs.Yticpjidcgaaldaa
open Go.RowKit Go.Proofs.YticpjidcgaaldaaW.PrintWords Go.Proofs.YticpjidcgaaldaaW.PrintLast Go.Proofs.YticpjidcgaaldaaW.PrintMore
set_option linter.unusedVariables false
set_option linter.unusedSimpArgs false

theorem OkC.i32 {x : S59} (h : OkC x) : -2147483648 ≤ x.f0 ∧ x.f0 ≤ 2147483647 := by have := bounds_i32 h.1; omega
theorem OkC.u32 {x : S59} (h : OkC x) : U32 x.f1 := by have := bounds_u32 h.2; unfold U32; omega
end Go.Proofs.Yticpjidcgaaldaa

namespace Go.Proofs.Yticpjidcgaaldaa
open Go.RowKit Go.Proofs.YticpjidcgaaldaaW.PrintWords Go.Proofs.YticpjidcgaaldaaW.PrintLast Go.Proofs.YticpjidcgaaldaaW.PrintMore
set_option linter.unusedVariables false
set_option linter.unusedSimpArgs false

theorem cell_at25 {w : World} {A : Option Addr} {n : Nat} {x : List S59} (h : k59.C w A n x) {j : Nat} (hj : j < x.length) : ∃ ad, A = some ad ∧ w.cell? (ad.add (j * 2)) = some (.int .i32 x[j].f0) ∧ w.cell? ⟨(ad.add (j * 2)).block, (ad.add (j * 2)).off + 1, none⟩ = some (.int .u32 x[j].f1) := by
  have := at_T59 h (j : Int) (by omega) (by have := h.1; omega)
  rw [rdT25_get hj, Int.toNat_natCast] at this
  exact this
end Go.Proofs.Yticpjidcgaaldaa

namespace Go.Proofs.Yticpjidcgaaldaa
open Go.RowKit Go.Proofs.YticpjidcgaaldaaW.PrintWords Go.Proofs.YticpjidcgaaldaaW.PrintLast Go.Proofs.YticpjidcgaaldaaW.PrintMore
set_option linter.unusedVariables false
set_option linter.unusedSimpArgs false

end Go.Proofs.Yticpjidcgaaldaa

namespace Go.Proofs.Yticpjidcgaaldaa
open Go.RowKit Go.Proofs.YticpjidcgaaldaaW.PrintWords Go.Proofs.YticpjidcgaaldaaW.PrintLast Go.Proofs.YticpjidcgaaldaaW.PrintMore
set_option linter.unusedVariables false
set_option linter.unusedSimpArgs false

theorem C_one_cell2 {w : World} {g : Nat} {x : S59} (h : w.heap[g]? = some (.cells #[.int .i32 x.f0, .int .u32 x.f1] 59 (0, 0))) : ReadsRow (fun (y : S59) cs => cs = [.int .i32 y.f0, .int .u32 y.f1]) 2 w (some ⟨g, 0, none⟩) 1 [x] := by
  have h1 := C_one_cell h
  refine ⟨h1.1, h1.2.1, fun hn => ?_⟩
  obtain ⟨ad, e, hj⟩ := h1.2.2 hn
  refine ⟨ad, e, fun j p hp => ?_⟩
  obtain ⟨cs, a, b, c⟩ := hj j p hp
  exact ⟨cs, a, k59_open b, c⟩
theorem delta_info (a b c d : Value) : (Try.prog.info? 26).map (·.size) = some (#[a, b, c, d] : Array Value).size := by kernel_rfl

end Go.Proofs.Yticpjidcgaaldaa
