/- The parts of this proof, one behind the other: contracts of the functions, plain laws, the walk. -/
import Derived.Test.YticpjidcgaaldaaProg
import Derived.Below
import Derived.Deep.Draws
import Derived.Deep.AppendLies
import Derived.Maps.AppendAt
import Derived.OwnWalk
import Derived.Laws.BytesArg
import Derived.Laws.MakeOwn
import Derived.Laws.OwnMore
import Derived.Deep.OwnRows
import Derived.Tactics
import Derived.Lib.ConvBytes
import Derived.Laws.Slices
import Derived.WalkKit
import Derived.KernelRfl
import Derived.RowKit3
import Derived.Deep.LoopGhost
import Derived.Deep.QuietTactic
import Derived.BigQuiet
import Derived.WideLaws
import Derived.Deep.DeepCutAuto
import Derived.Deep.CutBlock
import Derived.Deep.RegionHeld3
import Derived.Laws.Rows
import Derived.Lib.AppendStr
import Derived.ArgAppend
import Derived.Laws.IdiomCopy
import Derived.OrdersHeld
import Derived.Laws.BitsLemmas
import Derived.RowKit
import Derived.Test.YticpjidcgaaldaaWWords
import Derived.Test.YticpjidcgaaldaaWLast
import Derived.Test.YticpjidcgaaldaaWTab
import Derived.Test.YticpjidcgaaldaaWQPut
import Derived.Test.YticpjidcgaaldaaWApart
import Derived.Test.YticpjidcgaaldaaWArr
import Derived.Test.YticpjidcgaaldaaWZeros
import Derived.Test.YticpjidcgaaldaaWFoot
import Derived.Test.YticpjidcgaaldaaWKept
import Derived.Test.YticpjidcgaaldaaWShare
import Derived.Test.YticpjidcgaaldaaWN
import Derived.Test.YticpjidcgaaldaaWEqStruct
import Derived.Test.YticpjidcgaaldaaWNEv
import Derived.Test.YticpjidcgaaldaaWMore
import Derived.LoopTactic
import Derived.Lib.Hide
import Derived.Laws.BitsAllLaws
import Derived.Laws.Tables
import Derived.Laws.CopyOwn
import Derived.Laws.CopyRow
import Derived.Deep.MidRow
import Derived.Lib.SliceRun
import Derived.Laws.StructEq
import Derived.DeepKeys
import Derived.RegionTactic
import Derived.BigRegion
import Derived.Test.YticpjidcgaaldaaChecked
import Derived.WalkSpells
import Derived.Deep.RegionWith
import Derived.Deep.RegionLaw
import Derived.Orders
import Derived.OpenShut
namespace Go.Proofs.Yticpjidcgaaldaa
open Go.RowKit Go.Proofs.YticpjidcgaaldaaW.PrintWords Go.Proofs.YticpjidcgaaldaaW.PrintLast Go.Proofs.YticpjidcgaaldaaW.PrintMore
attribute [local go_sem] max2_int min2_int max_two min_two max_three min_three max_four min_four   -- for this text's walks alone
set_option linter.unusedVariables false
set_option linter.unusedSimpArgs false

def errW : Option Int → Value
  | none => .nilIface
  | some c => .iface 0 (.int .i64 c)
theorem errW_none : errW none = .nilIface := rfl
theorem errW_some (c : Int) : errW (some c) = .iface 0 (.int .i64 c) := rfl

theorem info5 : (Try.prog.info? 5).map (fun i => (i.zero, i.size, i.bytes)) = some (some (.int .u8 0), 1, 1) := by kernel_rfl
theorem info59 : (Try.prog.info? 59).map (fun i => (i.zero, i.size, i.bytes)) = some (some (.agg #[(.int .i32 0), (.int .u32 0)]), 2, 8) := by kernel_rfl
-- the values' own types
structure S59 where
  f0 : Int
  f1 : Int
def z59 : S59 := ⟨(0 : Int), (0 : Int)⟩
def k59 : Kd S59 := Kd.iso (Kd.pair (Kd.int .i32) (Kd.int .u32)) (fun x : S59 => (x.f0, x.f1))
theorem k59_open {w : World} {x : S59} {cs : List Value} (h : k59.K w x cs) : cs = [.int .i32 x.f0, .int .u32 x.f1] := by
  obtain ⟨_, _, rfl, rfl, rfl⟩ := h
  exact rfl
theorem k59_mk (w : World) (x : S59)  : k59.K w x [.int .i32 x.f0, .int .u32 x.f1] := ⟨[.int .i32 x.f0], [.int .u32 x.f1], rfl, rfl, rfl⟩
theorem k59_mkM (w : World) (base : Nat) (ok : Nat → Prop) (x : S59)  : k59.M w base ok x [.int .i32 x.f0, .int .u32 x.f1] := ⟨[.int .i32 x.f0], [.int .u32 x.f1], rfl, rfl, rfl⟩
def rd_T59 (xs : List S59) (i : Int) : S59 := xs.getD i.toNat z59
theorem at_T59 {w : World} {A : Option Addr} {n : Nat} {xs : List S59} (h : Kd.C k59 w A n xs) (i : Int) (h0 : 0 ≤ i) (h1 : i < n) : ∃ ad , A = some ad ∧ w.cell? (ad.add (i.toNat * 2)) = some (.int .i32 (rd_T59 xs i).f0) ∧ w.cell? ⟨(ad.add (i.toNat * 2)).block, (ad.add (i.toNat * 2)).off + 1, none⟩ = some (.int .u32 (rd_T59 xs i).f1) := by
  obtain ⟨ad, c, e, _, hK, hc0⟩ := Kd.C_get h z59 i h0 h1
  have hc : ∀ j u, c[j]? = some u → w.cell? (ad.add (i.toNat * 2 + j)) = some u := hc0
  obtain rfl := k59_open hK
  exact ⟨ad, e, hc 0 _ rfl, by rw [← add_field _ _ 1 (by omega)]; exact hc 1 _ rfl⟩

structure S97 where
  f0 : Int
  f1 : Int
def z97 : S97 := ⟨(0 : Int), (0 : Int)⟩
def k97 : Kd S97 := Kd.iso (Kd.pair (Kd.int .i32) (Kd.int .u32)) (fun x : S97 => (x.f0, x.f1))
theorem k97_open {w : World} {x : S97} {cs : List Value} (h : k97.K w x cs) : cs = [.int .i32 x.f0, .int .u32 x.f1] := by
  obtain ⟨_, _, rfl, rfl, rfl⟩ := h
  exact rfl
theorem k97_mkM (w : World) (base : Nat) (ok : Nat → Prop) (x : S97)  : k97.M w base ok x [.int .i32 x.f0, .int .u32 x.f1] := ⟨[.int .i32 x.f0], [.int .u32 x.f1], rfl, rfl, rfl⟩
def rd_T97 (xs : List S97) (i : Int) : S97 := xs.getD i.toNat z97
theorem at_T97 {w : World} {A : Option Addr} {n : Nat} {xs : List S97} (h : Kd.C k97 w A n xs) (i : Int) (h0 : 0 ≤ i) (h1 : i < n) : ∃ ad , A = some ad ∧ w.cell? (ad.add (i.toNat * 2)) = some (.int .i32 (rd_T97 xs i).f0) ∧ w.cell? ⟨(ad.add (i.toNat * 2)).block, (ad.add (i.toNat * 2)).off + 1, none⟩ = some (.int .u32 (rd_T97 xs i).f1) := by
  obtain ⟨ad, c, e, _, hK, hc0⟩ := Kd.C_get h z97 i h0 h1
  have hc : ∀ j u, c[j]? = some u → w.cell? (ad.add (i.toNat * 2 + j)) = some u := hc0
  obtain rfl := k97_open hK
  exact ⟨ad, e, hc 0 _ rfl, by rw [← add_field _ _ 1 (by omega)]; exact hc 1 _ rfl⟩

def rd_L5 (xs : List (List Int)) (i : Int) : (List Int) := xs.getD i.toNat ([] : List Int)
theorem at_L5 {w : World} {A : Option Addr} {n : Nat} {xs : List (List Int)} (h : Kd.C (Kd.slice 5 (Kd.int .u8)) w A n xs) (i : Int) (h0 : 0 ≤ i) (h1 : i < n) : ∃ ad A0 c0, A = some ad ∧ w.cell? (ad.add i.toNat) = some (.slice A0 (rd_L5 xs i).length c0) ∧ (rd_L5 xs i).length ≤ c0 ∧ (Kd.int .u8).C w A0 (rd_L5 xs i).length (rd_L5 xs i) := by
  obtain ⟨ad, c, e, _, hK, hc0⟩ := Kd.C_get h ([] : List Int) i h0 h1
  have hc : ∀ j u, c[j]? = some u → w.cell? (ad.add (i.toNat * 1 + j)) = some u := hc0
  obtain ⟨A0, c0, rfl, l0, g0⟩ := hK
  exact ⟨ad, A0, c0, e, by have hq := hc 0 _ rfl; rwa [Nat.mul_one, Nat.add_zero] at hq, l0, g0⟩

-- NOT PRINTED: function 70 (ink_Pen_add)

-- NOT PRINTED: function 38 (ink_Pen_Byte)

-- NOT PRINTED: function 59 (ink_Pen_Half)

-- NOT PRINTED: function 39 (ink_Pen_Word)

-- NOT PRINTED: function 71 (bytes_Clone)

-- NOT PRINTED: function 40 (ink_Pen_Bytes)

def delta_Delta_right.l0 : Nat → List Int → Int → Int → Int → Int → List Int → List (S59) → Option (Bool)
  | 0, _, _, _, _, _, _, _ => none
  | k + 1, x6, x7, x8, x102000, x102001, x102002, x102003 => if x8 < x7 then (if 0 ≤ x8 then (if x8 < (x6.length : Int) then (if (wrap64 (rd x6 x8)) ≥ 48 then (some false) else (if x8 > 0 then (if 0 ≤ (wrap64 (x8 - 1)) then (if (wrap64 (x8 - 1)) < (x102002.length : Int) then (if (rd x6 x8) ≤ (rd x102002 (wrap64 (x8 - 1))) then (some false) else (delta_Delta_right.l0 k x6 x7 (wrap64 (x8 + 1)) x102000 x102001 x102002 x102003)) else (none)) else (none)) else (delta_Delta_right.l0 k x6 x7 (wrap64 (x8 + 1)) x102000 x102001 x102002 x102003))) else (none)) else (none)) else (some ((x102002.length : Int) == (x102003.length : Int)))
def delta_Delta_right.f (k : Nat) (a0_0 : Int) (a0_1 : Int) (l0_2 : List Int) (l0_3 : List (S59)) : Option (Bool) := delta_Delta_right.l0 k l0_2 (l0_2.length : Int) 0 a0_0 a0_1 l0_2 l0_3
set_option maxHeartbeats 8000000 in
set_option maxRecDepth 100000 in
theorem delta_Delta_right.calls (k : Nat) (a0_0 : Int) (a0_1 : Int) (A0_2 : Option Addr) (c0_2 : Nat) (l0_2 : List Int) (A0_3 : Option Addr) (c0_3 : Nat) (l0_3 : List (S59)) (r : Bool) (w : World) (hr0_2 : Kd.C (Kd.int .u8) w A0_2 l0_2.length l0_2) (hc0_2 : l0_2.length ≤ c0_2) (hr0_3 : Kd.C k59 w A0_3 l0_3.length l0_3) (hc0_3 : l0_3.length ≤ c0_3) (h : delta_Delta_right.f k a0_0 a0_1 l0_2 l0_3 = some r) :
    Calls Try.prog 72 #[.agg #[.int .u32 a0_0, .int .u32 a0_1, .slice A0_2 l0_2.length c0_2, .slice A0_3 l0_3.length c0_3]] w fun e w' => e = .returned (.bool r) ∧ Below w.heap.size w w' := by
  have hu26 := Try.underlying26
  have HR0_2 := Aside0.mk hr0_2
  have HC0_2 := Aside0.mk hc0_2
  clear hr0_2 hc0_2
  have HR0_3 := Aside0.mk hr0_3
  have HC0_3 := Aside0.mk hc0_3
  clear hr0_3 hc0_3
  have HB := Aside0.mk (Below.refl w.heap.size w)
  have H : (delta_Delta_right.l0 k l0_2 (l0_2.length : Int) 0 a0_0 a0_1 l0_2 l0_3) = some r := h
  clear h
  have H' := Aside0.mk H
  clear H
  go_enter Try.func72, Try.ntmps72
  go_wp2_with (first | ((with_reducible refine gate_dst (N := 1) rfl ?_); refine box_event ?hg (N := 1) ?hd (cs := #[.int .u32 a0_0, .int .u32 a0_1, .slice A0_2 l0_2.length c0_2, .slice A0_3 l0_3.length c0_3]) (t := 26) ?hr ?_; (case hd => rfl); (case hg => rfl); (case hr => first | (go_simp; done) | (go_simp; rfl)); intro gb101 hg w2 hbox hb; have n0_ := Aside0.mk (below_step (by repeat (first | (with_reducible first | exact HB.out | apply below_alloc | apply pw_below_drewN | apply below_drew1) | exact HB.out)) hb); have n1_ := Aside0.mk (hbox); have n2_ := Aside0.mk ((by rw [hg]; exact (below_size (by repeat (first | (with_reducible first | exact HB.out | apply below_alloc | apply pw_below_drewN | apply below_drew1) | exact HB.out))) : w.heap.size ≤ gb101)); have n3_ := Aside0.mk ((by rw [hg]; exact (below_size (by repeat (first | (with_reducible first | exact HB.out | apply below_alloc | apply pw_below_drewN | apply below_drew1) | exact HB.out))) : w.heap.size ≤ gb101)); clear HB; have HB := n0_; have BK101 := n1_; have GW101 := n2_; have GE101 := n3_; clear n0_ n1_ n2_ n3_; clear hb hbox hg; have hcz3_0 : w2.cell? ⟨gb101, 0, none⟩ = some (.int .u32 a0_0) := (blk_cell BK101.out 0).trans rfl; have hcz3_1 : w2.cell? ⟨gb101, 1, none⟩ = some (.int .u32 a0_1) := (blk_cell BK101.out 1).trans rfl; have hcz3_2 : w2.cell? ⟨gb101, 2, none⟩ = some (.slice A0_2 l0_2.length c0_2) := (blk_cell BK101.out 2).trans rfl; have hcz3_3 : w2.cell? ⟨gb101, 3, none⟩ = some (.slice A0_3 l0_3.length c0_3) := (blk_cell BK101.out 3).trans rfl; have hfz3_0 := blk_frozen BK101.out 0; have hfz3_1 := blk_frozen BK101.out 1; have hfz3_2 := blk_frozen BK101.out 2; have hfz3_3 := blk_frozen BK101.out 3))
  go_loopg [8] k (fun kq v8 w' => ∃ (x8_1 : Int), v8 = .int .i64 x8_1 ∧ Aside0 (delta_Delta_right.l0 kq l0_2 (l0_2.length : Int) x8_1 a0_0 a0_1 l0_2 l0_3 = some r) ∧ Aside0 (kq ≤ k) ∧ Aside0 (w'.heap[gb101]? = some (.cells #[.int .u32 a0_0, .int .u32 a0_1, (.slice A0_2 l0_2.length c0_2), (.slice A0_3 l0_3.length c0_3)] 26 (0, 0))) ∧ Aside0 (Below w.heap.size w w'))
  case atStart => exact ⟨(0), (by first | rfl | (simp; done) | (simp [*]; done)), H', ⟨Nat.le_refl _⟩, ⟨by (with_reducible repeat (first | refine blk_drewN ?_ _ | refine blk_drew ?_ | refine blk_alloc ?_ _)); exact BK101.out⟩, ⟨by repeat (first | (with_reducible first | exact HB.out | apply below_alloc | apply pw_below_drewN | apply below_drew1 | refine below_set ?_ GE101.out) | exact HB.out)⟩⟩
  case round =>
    clear H'
    try clear p2
    try clear hcz3_0
    try clear hcz3_1
    try clear hcz3_2
    try clear hcz3_3
    try clear hfz3_0
    try clear hfz3_1
    try clear hfz3_2
    try clear hfz3_3
    obtain ⟨x8_1, rfl, HA, HK1, BK101, HB⟩ := hrel
    cases gk with
    | zero => exact absurd HA.out (by simp [delta_Delta_right.l0])
    | succ k1 =>
      have H := HA.out
      clear HA
      simp only [delta_Delta_right.l0] at H
      by_cases c4 : x8_1 < (l0_2.length : Int)
      · rw [if_pos c4] at H
        have c4b0 : decide (x8_1 < (l0_2.length : Int)) = true := decide_eq_true c4
        clear c4
        by_cases c5 : 0 ≤ x8_1
        · rw [if_pos c5] at H
          have c5b0 : decide (0 ≤ x8_1) = true := decide_eq_true c5
          clear c5
          by_cases c6 : x8_1 < (l0_2.length : Int)
          · rw [if_pos c6] at H
            have c6b0 : decide (x8_1 < (l0_2.length : Int)) = true := decide_eq_true c6
            clear c6
            by_cases c7 : (wrap64 (rd l0_2 x8_1)) ≥ 48
            · rw [if_pos c7] at H
              have c7b0 : decide (48 ≤ (wrap64 (rd l0_2 x8_1))) = true := decide_eq_true c7
              clear c7
              obtain rfl := Option.some.inj H
              have p102 : 0 ≤ (x8_1 : Int) := of_decide_eq_true (by first | (with_reducible assumption) | assumption)
              have q102 : x8_1 < (l0_2.length : Int) := of_decide_eq_true (by first | (with_reducible assumption) | assumption)
              obtain ⟨ad102, e102, hx102_0⟩ := Kd.at_int HR0_2.out x8_1 p102 q102
              cases e102
              replace hx102_0 := (HB.out.cell (World.block_lt_of_cell? w _ hx102_0)).trans hx102_0
              replace p102 := eq_true p102
              replace q102 := eq_true q102
              go_wp2
              go_ret
              exact ⟨by first | rfl | (simp [errW_none, errW_some] <;> rfl) | (simp [*, errW_none, errW_some] <;> rfl), by repeat (first | (with_reducible first | exact HB.out | apply below_alloc | apply pw_below_drewN | apply below_drew1 | refine below_set ?_ GE101.out) | exact HB.out)⟩
            · rw [if_neg c7] at H
              have c7b0 : decide (48 ≤ (wrap64 (rd l0_2 x8_1))) = false := decide_eq_false c7
              clear c7
              by_cases c8 : x8_1 > 0
              · rw [if_pos c8] at H
                have c8b0 : decide (0 < x8_1) = true := decide_eq_true c8
                clear c8
                obtain ⟨ji9, hji9⟩ : ∃ j_ : Int, (wrap64 (x8_1 - 1)) = j_ := ⟨_, rfl⟩
                replace H : (if 0 ≤ (ji9) then (if (ji9) < (l0_2.length : Int) then (if (rd l0_2 x8_1) ≤ (rd l0_2 (ji9)) then (some false) else (delta_Delta_right.l0 k1 l0_2 (l0_2.length : Int) (wrap64 (x8_1 + 1)) a0_0 a0_1 l0_2 l0_3)) else (none)) else (none)) = some r := by first | (rw [hji9] at H; exact H) | (simp only [hji9] at H ⊢; exact H)
                have hji9w : (IntKind.i64.wrap (x8_1 - 1)) = ji9 := (i64_w _).trans hji9
                by_cases c10 : 0 ≤ (ji9)
                · rw [if_pos c10] at H
                  have c10b0 : decide (0 ≤ (ji9)) = true := decide_eq_true c10
                  clear c10
                  by_cases c11 : (ji9) < (l0_2.length : Int)
                  · rw [if_pos c11] at H
                    have c11b0 : decide ((ji9) < (l0_2.length : Int)) = true := decide_eq_true c11
                    clear c11
                    by_cases c12 : (rd l0_2 x8_1) ≤ (rd l0_2 (ji9))
                    · rw [if_pos c12] at H
                      have c12b0 : decide ((rd l0_2 x8_1) ≤ (rd l0_2 (ji9))) = true := decide_eq_true c12
                      clear c12
                      obtain rfl := Option.some.inj H
                      have p102 : 0 ≤ (x8_1 : Int) := of_decide_eq_true (by first | (with_reducible assumption) | assumption)
                      have q102 : x8_1 < (l0_2.length : Int) := of_decide_eq_true (by first | (with_reducible assumption) | assumption)
                      obtain ⟨ad102, e102, hx102_0⟩ := Kd.at_int HR0_2.out x8_1 p102 q102
                      cases e102
                      replace hx102_0 := (HB.out.cell (World.block_lt_of_cell? w _ hx102_0)).trans hx102_0
                      replace p102 := eq_true p102
                      replace q102 := eq_true q102
                      have hcz13_0 : wr.cell? ⟨gb101, 0, none⟩ = some (.int .u32 a0_0) := (blk_cell BK101.out 0).trans rfl
                      have hcz13_1 : wr.cell? ⟨gb101, 1, none⟩ = some (.int .u32 a0_1) := (blk_cell BK101.out 1).trans rfl
                      have hcz13_2 : wr.cell? ⟨gb101, 2, none⟩ = some (.slice (some ad102) l0_2.length c0_2) := (blk_cell BK101.out 2).trans rfl
                      have hcz13_3 : wr.cell? ⟨gb101, 3, none⟩ = some (.slice A0_3 l0_3.length c0_3) := (blk_cell BK101.out 3).trans rfl
                      have hfz13_0 := blk_frozen BK101.out 0
                      have hfz13_1 := blk_frozen BK101.out 1
                      have hfz13_2 := blk_frozen BK101.out 2
                      have hfz13_3 := blk_frozen BK101.out 3
                      have p103 : 0 ≤ ((ji9) : Int) := of_decide_eq_true (by first | (with_reducible assumption) | assumption)
                      have q103 : (ji9) < (l0_2.length : Int) := of_decide_eq_true (by first | (with_reducible assumption) | assumption)
                      obtain ⟨ad103, e103, hx103_0⟩ := Kd.at_int HR0_2.out (ji9) p103 q103
                      obtain rfl : ad102 = ad103 := (by injection e103)
                      replace hx103_0 := (HB.out.cell (World.block_lt_of_cell? w _ hx103_0)).trans hx103_0
                      replace p103 := eq_true p103
                      replace q103 := eq_true q103
                      go_wp2
                      go_ret
                      exact ⟨by first | rfl | (simp [errW_none, errW_some] <;> rfl) | (simp only [← hji9]; first | rfl | (simp [errW_none, errW_some] <;> rfl)) | (simp [*, errW_none, errW_some] <;> rfl), by repeat (first | (with_reducible first | exact HB.out | apply below_alloc | apply pw_below_drewN | apply below_drew1 | refine below_set ?_ GE101.out) | exact HB.out)⟩
                    · rw [if_neg c12] at H
                      have c12b0 : decide ((rd l0_2 x8_1) ≤ (rd l0_2 (ji9))) = false := decide_eq_false c12
                      clear c12
                      have H' := Aside0.mk H
                      clear H
                      have p102 : 0 ≤ (x8_1 : Int) := of_decide_eq_true (by first | (with_reducible assumption) | assumption)
                      have q102 : x8_1 < (l0_2.length : Int) := of_decide_eq_true (by first | (with_reducible assumption) | assumption)
                      obtain ⟨ad102, e102, hx102_0⟩ := Kd.at_int HR0_2.out x8_1 p102 q102
                      cases e102
                      replace hx102_0 := (HB.out.cell (World.block_lt_of_cell? w _ hx102_0)).trans hx102_0
                      replace p102 := eq_true p102
                      replace q102 := eq_true q102
                      have hcz14_0 : wr.cell? ⟨gb101, 0, none⟩ = some (.int .u32 a0_0) := (blk_cell BK101.out 0).trans rfl
                      have hcz14_1 : wr.cell? ⟨gb101, 1, none⟩ = some (.int .u32 a0_1) := (blk_cell BK101.out 1).trans rfl
                      have hcz14_2 : wr.cell? ⟨gb101, 2, none⟩ = some (.slice (some ad102) l0_2.length c0_2) := (blk_cell BK101.out 2).trans rfl
                      have hcz14_3 : wr.cell? ⟨gb101, 3, none⟩ = some (.slice A0_3 l0_3.length c0_3) := (blk_cell BK101.out 3).trans rfl
                      have hfz14_0 := blk_frozen BK101.out 0
                      have hfz14_1 := blk_frozen BK101.out 1
                      have hfz14_2 := blk_frozen BK101.out 2
                      have hfz14_3 := blk_frozen BK101.out 3
                      have p103 : 0 ≤ ((ji9) : Int) := of_decide_eq_true (by first | (with_reducible assumption) | assumption)
                      have q103 : (ji9) < (l0_2.length : Int) := of_decide_eq_true (by first | (with_reducible assumption) | assumption)
                      obtain ⟨ad103, e103, hx103_0⟩ := Kd.at_int HR0_2.out (ji9) p103 q103
                      obtain rfl : ad102 = ad103 := (by injection e103)
                      replace hx103_0 := (HB.out.cell (World.block_lt_of_cell? w _ hx103_0)).trans hx103_0
                      replace p103 := eq_true p103
                      replace q103 := eq_true q103
                      go_wp2
                      go_roundg k1
                      case measure => have := HK1.out; omega
                      case rel => exact ⟨(wrap64 (x8_1 + 1)), (by first | rfl | (simp; done) | (simp [*]; done)), H', ⟨by have := HK1.out; omega⟩, ⟨by (with_reducible repeat (first | refine blk_drewN ?_ _ | refine blk_drew ?_ | refine blk_alloc ?_ _)); exact BK101.out⟩, ⟨by repeat (first | (with_reducible first | exact HB.out | apply below_alloc | apply pw_below_drewN | apply below_drew1 | refine below_set ?_ GE101.out) | exact HB.out)⟩⟩
                  · rw [if_neg c11] at H
                    exact absurd H (by simp)
                · rw [if_neg c10] at H
                  exact absurd H (by simp)
              · rw [if_neg c8] at H
                have c8b0 : decide (0 < x8_1) = false := decide_eq_false c8
                clear c8
                have H' := Aside0.mk H
                clear H
                have p102 : 0 ≤ (x8_1 : Int) := of_decide_eq_true (by first | (with_reducible assumption) | assumption)
                have q102 : x8_1 < (l0_2.length : Int) := of_decide_eq_true (by first | (with_reducible assumption) | assumption)
                obtain ⟨ad102, e102, hx102_0⟩ := Kd.at_int HR0_2.out x8_1 p102 q102
                cases e102
                replace hx102_0 := (HB.out.cell (World.block_lt_of_cell? w _ hx102_0)).trans hx102_0
                replace p102 := eq_true p102
                replace q102 := eq_true q102
                go_wp2
                go_roundg k1
                case measure => have := HK1.out; omega
                case rel => exact ⟨(wrap64 (x8_1 + 1)), (by first | rfl | (simp; done) | (simp [*]; done)), H', ⟨by have := HK1.out; omega⟩, ⟨by (with_reducible repeat (first | refine blk_drewN ?_ _ | refine blk_drew ?_ | refine blk_alloc ?_ _)); exact BK101.out⟩, ⟨by repeat (first | (with_reducible first | exact HB.out | apply below_alloc | apply pw_below_drewN | apply below_drew1 | refine below_set ?_ GE101.out) | exact HB.out)⟩⟩
          · rw [if_neg c6] at H
            exact absurd H (by simp)
        · rw [if_neg c5] at H
          exact absurd H (by simp)
      · rw [if_neg c4] at H
        have c4b0 : decide (x8_1 < (l0_2.length : Int)) = false := decide_eq_false c4
        clear c4
        obtain rfl := Option.some.inj H
        have hcz15_0 : wr.cell? ⟨gb101, 0, none⟩ = some (.int .u32 a0_0) := (blk_cell BK101.out 0).trans rfl
        have hcz15_1 : wr.cell? ⟨gb101, 1, none⟩ = some (.int .u32 a0_1) := (blk_cell BK101.out 1).trans rfl
        have hcz15_2 : wr.cell? ⟨gb101, 2, none⟩ = some (.slice A0_2 l0_2.length c0_2) := (blk_cell BK101.out 2).trans rfl
        have hcz15_3 : wr.cell? ⟨gb101, 3, none⟩ = some (.slice A0_3 l0_3.length c0_3) := (blk_cell BK101.out 3).trans rfl
        have hfz15_0 := blk_frozen BK101.out 0
        have hfz15_1 := blk_frozen BK101.out 1
        have hfz15_2 := blk_frozen BK101.out 2
        have hfz15_3 := blk_frozen BK101.out 3
        go_wp2
        go_ret
        exact ⟨by first | rfl | (simp [errW_none, errW_some] <;> rfl) | (simp [*, errW_none, errW_some] <;> rfl), by repeat (first | (with_reducible first | exact HB.out | apply below_alloc | apply pw_below_drewN | apply below_drew1 | refine below_set ?_ GE101.out) | exact HB.out)⟩

def hoodwinkref01_Same.l0 : Nat → List Int → List Int → Int → Int → Option (Bool)
  | 0, _, _, _, _ => none
  | k + 1, x0, x1, x12, x13 => if x13 < x12 then (if 0 ≤ x13 then (if x13 < (x0.length : Int) then (if x13 < (x1.length : Int) then (if (rd x0 x13) = (rd x1 x13) then (hoodwinkref01_Same.l0 k x0 x1 x12 (wrap64 (x13 + 1))) else (some false)) else (none)) else (none)) else (none)) else (some true)
def hoodwinkref01_Same.f (k : Nat) (l0 : List Int) (l1 : List Int) : Option (Bool) := if (l0.length : Int) = (l1.length : Int) then (hoodwinkref01_Same.l0 k l0 l1 (l0.length : Int) 0) else (some false)
theorem hoodwinkref01_Same.mono_l : ∀ k, (∀ y0 y1 y2 y3, LeO (hoodwinkref01_Same.l0 k y0 y1 y2 y3) (hoodwinkref01_Same.l0 (k + 1) y0 y1 y2 y3))
  | 0 => fun _ _ _ _ r h => by simp [hoodwinkref01_Same.l0] at h
  | k + 1 => by
    have ih0 := hoodwinkref01_Same.mono_l k
    · intro y0 y1 y2 y3
      unfold hoodwinkref01_Same.l0
      repeat' first
      | (with_reducible exact ih0 _ _ _ _)
      | (with_reducible exact LeO.refl _)
      | (with_reducible exact LeO.none _)
      | (with_reducible refine LeO.ite ?_ ?_)
      | (with_reducible refine LeO.bind ?_ (fun _ => ?_))
      | exact ih0 _ _ _ _
      | exact LeO.none _
      | refine LeO.ite ?_ ?_
      | refine LeO.bind ?_ (fun _ => ?_)
theorem hoodwinkref01_Same.mono : ∀ a0 a1 k, LeO (hoodwinkref01_Same.f k a0 a1) (hoodwinkref01_Same.f (k + 1) a0 a1) := by
  intro a0 a1 k
  have ih0 := hoodwinkref01_Same.mono_l k
  unfold hoodwinkref01_Same.f
  repeat' first
      | (with_reducible exact ih0 _ _ _ _)
      | (with_reducible exact LeO.refl _)
      | (with_reducible exact LeO.none _)
      | (with_reducible refine LeO.ite ?_ ?_)
      | (with_reducible refine LeO.bind ?_ (fun _ => ?_))
      | exact ih0 _ _ _ _
      | exact LeO.none _
      | refine LeO.ite ?_ ?_
      | refine LeO.bind ?_ (fun _ => ?_)
set_option maxHeartbeats 8000000 in
set_option maxRecDepth 100000 in
theorem hoodwinkref01_Same.calls (k : Nat) (A0 : Option Addr) (c0 : Nat) (l0 : List Int) (A1 : Option Addr) (c1 : Nat) (l1 : List Int) (r : Bool) (w : World) (hr0 : Kd.C (Kd.int .u8) w A0 l0.length l0) (hc0 : l0.length ≤ c0) (hr1 : Kd.C (Kd.int .u8) w A1 l1.length l1) (hc1 : l1.length ≤ c1) (h : hoodwinkref01_Same.f k l0 l1 = some r) :
    Calls Try.prog 18 #[.slice A0 l0.length c0, .slice A1 l1.length c1] w fun e w' => e = .returned (.bool r) ∧ Drawn0 w w' := by
  have HR0 := Aside0.mk hr0
  have HC0 := Aside0.mk hc0
  clear hr0 hc0
  have HR1 := Aside0.mk hr1
  have HC1 := Aside0.mk hc1
  clear hr1 hc1
  have H : (if (l0.length : Int) = (l1.length : Int) then (hoodwinkref01_Same.l0 k l0 l1 (l0.length : Int) 0) else (some false)) = some r := h
  clear h
  by_cases c3 : (l0.length : Int) = (l1.length : Int)
  · rw [if_pos c3] at H
    have c3b0 : ((l0.length : Int) == (l1.length : Int)) = true := beq_iff_eq.mpr c3
    have c3b1 : ((l0.length : Int) != (l1.length : Int)) = false := bne_eq_false_iff_eq.mpr c3
    have c3b2 : (l0.length == l1.length) = true := by first | simpa using c3 | (simp at c3 ⊢; omega)
    clear c3
    have H' := Aside0.mk H
    clear H
    go_enter Try.func18, Try.ntmps18
    go_wp2
    repeat (go_quiet (fail); try go_wp2)
    go_loopg [13] k (fun kq v13 w' => ∃ (x13_1 : Int), v13 = .int .i64 x13_1 ∧ Aside0 (hoodwinkref01_Same.l0 kq l0 l1 (l0.length : Int) x13_1 = some r) ∧ Aside0 (kq ≤ k) ∧ Drawn0 w w')
    case atStart => exact ⟨(0), (by first | rfl | (simp; done) | (simp [*]; done)), H', ⟨Nat.le_refl _⟩, by repeat (first | exact Drawn0.refl _ | apply Drawn0.step)⟩
    case round =>
      clear H'
      try clear c1
      try clear p2
      try clear c3
      try clear c3b0
      try clear c3b1
      try clear c3b2
      obtain ⟨x13_1, rfl, HA, HK1, ⟨m1, rfl⟩⟩ := hrel
      cases gk with
      | zero => exact absurd HA.out (by simp [hoodwinkref01_Same.l0])
      | succ k1 =>
        have H := HA.out
        clear HA
        simp only [hoodwinkref01_Same.l0] at H
        by_cases c4 : x13_1 < (l0.length : Int)
        · rw [if_pos c4] at H
          have c4b0 : decide (x13_1 < (l0.length : Int)) = true := decide_eq_true c4
          clear c4
          by_cases c5 : 0 ≤ x13_1
          · rw [if_pos c5] at H
            have c5b0 : decide (0 ≤ x13_1) = true := decide_eq_true c5
            clear c5
            by_cases c6 : x13_1 < (l0.length : Int)
            · rw [if_pos c6] at H
              have c6b0 : decide (x13_1 < (l0.length : Int)) = true := decide_eq_true c6
              clear c6
              by_cases c7 : x13_1 < (l1.length : Int)
              · rw [if_pos c7] at H
                have c7b0 : decide (x13_1 < (l1.length : Int)) = true := decide_eq_true c7
                clear c7
                by_cases c8 : (rd l0 x13_1) = (rd l1 x13_1)
                · rw [if_pos c8] at H
                  have c8b0 : ((rd l0 x13_1) == (rd l1 x13_1)) = true := beq_iff_eq.mpr c8
                  have c8b1 : ((rd l0 x13_1) != (rd l1 x13_1)) = false := bne_eq_false_iff_eq.mpr c8
                  clear c8
                  have H' := Aside0.mk H
                  clear H
                  have p141 : 0 ≤ (x13_1 : Int) := of_decide_eq_true (by first | (with_reducible assumption) | assumption)
                  have q141 : x13_1 < (l0.length : Int) := of_decide_eq_true (by first | (with_reducible assumption) | assumption)
                  obtain ⟨ad141, e141, hx141_0⟩ := Kd.at_int HR0.out x13_1 p141 q141
                  cases e141
                  replace p141 := eq_true p141
                  replace q141 := eq_true q141
                  have p142 : 0 ≤ (x13_1 : Int) := of_decide_eq_true (by first | (with_reducible assumption) | assumption)
                  have q142 : x13_1 < (l1.length : Int) := of_decide_eq_true (by first | (with_reducible assumption) | assumption)
                  obtain ⟨ad142, e142, hx142_0⟩ := Kd.at_int HR1.out x13_1 p142 q142
                  cases e142
                  replace p142 := eq_true p142
                  replace q142 := eq_true q142
                  go_wp2
                  repeat (go_quiet (fail); try go_wp2)
                  go_roundg k1
                  case measure => have := HK1.out; omega
                  case rel => exact ⟨(wrap64 (x13_1 + 1)), (by first | rfl | (simp; done) | (simp [*]; done)), H', ⟨by have := HK1.out; omega⟩, by repeat (first | exact Drawn0.refl _ | apply Drawn0.step)⟩
                · rw [if_neg c8] at H
                  have c8b0 : ((rd l0 x13_1) == (rd l1 x13_1)) = false := beq_eq_false_iff_ne.mpr c8
                  have c8b1 : ((rd l0 x13_1) != (rd l1 x13_1)) = true := bne_iff_ne.mpr c8
                  obtain rfl := Option.some.inj H
                  have p141 : 0 ≤ (x13_1 : Int) := of_decide_eq_true (by first | (with_reducible assumption) | assumption)
                  have q141 : x13_1 < (l0.length : Int) := of_decide_eq_true (by first | (with_reducible assumption) | assumption)
                  obtain ⟨ad141, e141, hx141_0⟩ := Kd.at_int HR0.out x13_1 p141 q141
                  cases e141
                  replace p141 := eq_true p141
                  replace q141 := eq_true q141
                  have p142 : 0 ≤ (x13_1 : Int) := of_decide_eq_true (by first | (with_reducible assumption) | assumption)
                  have q142 : x13_1 < (l1.length : Int) := of_decide_eq_true (by first | (with_reducible assumption) | assumption)
                  obtain ⟨ad142, e142, hx142_0⟩ := Kd.at_int HR1.out x13_1 p142 q142
                  cases e142
                  replace p142 := eq_true p142
                  replace q142 := eq_true q142
                  go_wp2
                  repeat (go_quiet (fail); try go_wp2)
                  go_ret
                  exact ⟨by first | rfl | (simp; done) | (simp [*]; done), by repeat (first | exact Drawn0.refl _ | apply Drawn0.step)⟩
              · rw [if_neg c7] at H
                exact absurd H (by simp)
            · rw [if_neg c6] at H
              exact absurd H (by simp)
          · rw [if_neg c5] at H
            exact absurd H (by simp)
        · rw [if_neg c4] at H
          have c4b0 : decide (x13_1 < (l0.length : Int)) = false := decide_eq_false c4
          clear c4
          obtain rfl := Option.some.inj H
          go_wp2
          repeat (go_quiet (fail); try go_wp2)
          go_ret
          exact ⟨by first | rfl | (simp; done) | (simp [*]; done), by repeat (first | exact Drawn0.refl _ | apply Drawn0.step)⟩
  · rw [if_neg c3] at H
    have c3b0 : ((l0.length : Int) == (l1.length : Int)) = false := beq_eq_false_iff_ne.mpr c3
    have c3b1 : ((l0.length : Int) != (l1.length : Int)) = true := bne_iff_ne.mpr c3
    have c3b2 : (l0.length == l1.length) = false := by first | simpa using c3 | (simp at c3 ⊢; omega)
    obtain rfl := Option.some.inj H
    go_enter Try.func18, Try.ntmps18
    go_wp2
    repeat (go_quiet (fail); try go_wp2)
    go_ret
    exact ⟨by first | rfl | (simp; done) | (simp [*]; done), by repeat (first | exact Drawn0.refl _ | apply Drawn0.step)⟩

def hoodwinkref01_Join.l0 : Nat → List Int → List (List Int) → Int → Int → Option (List Int)
  | 0, _, _, _, _ => none
  | k + 1, x3, x6, x7, x8 => if x8 < x7 then (if 0 ≤ x8 then (if x8 < (x6.length : Int) then (if x3.length + (rd_L5 x6 x8).length < 140737488355328 then (hoodwinkref01_Join.l0 k (x3 ++ (rd_L5 x6 x8)) x6 x7 (wrap64 (x8 + 1))) else (none)) else (none)) else (none)) else (some x3)
def hoodwinkref01_Join.f (k : Nat) (l0 : List (List Int)) : Option (List Int) := hoodwinkref01_Join.l0 k ([] : List Int) l0 (l0.length : Int) 0
set_option maxHeartbeats 8000000 in
set_option maxRecDepth 100000 in
theorem hoodwinkref01_Join.calls (k : Nat) (A0 : Option Addr) (c0 : Nat) (l0 : List (List Int)) (r : List Int) (w : World) (hr0 : Kd.C (Kd.slice 5 (Kd.int .u8)) w A0 l0.length l0) (hc0 : l0.length ≤ c0) (h : hoodwinkref01_Join.f k l0 = some r) :
    Calls Try.prog 21 #[.slice A0 l0.length c0] w fun e w' => ∃ v0_ : Value, e = .returned (v0_) ∧ Kd.R (Kd.int .u8) 5 w' w.heap.size (fun _ => True) v0_ r ∧ Below w.heap.size w w' := by
  have HR0 := Aside0.mk hr0
  have HC0 := Aside0.mk hc0
  clear hr0 hc0
  have HB := Aside0.mk (Below.refl w.heap.size w)
  have H : (hoodwinkref01_Join.l0 k ([] : List Int) l0 (l0.length : Int) 0) = some r := h
  clear h
  have H' := Aside0.mk H
  clear H
  go_enter Try.func21, Try.ntmps21
  go_wp2
  go_loopg [3, 8] k (fun kq v3 v8 w' => ∃ (x3_1 : List Int) (x8_1 : Int), v8 = .int .i64 x8_1 ∧ Aside0 (hoodwinkref01_Join.l0 kq x3_1 l0 (l0.length : Int) x8_1 = some r) ∧ Aside0 (kq ≤ k) ∧ Aside0 (Kd.R (Kd.int .u8) 5 w' w.heap.size (fun _ => True) v3 x3_1) ∧ Aside0 (Below w.heap.size w w'))
  case atStart => exact ⟨(([] : List Int)), (0), (by first | rfl | (simp; done) | (simp [*]; done)), H', ⟨Nat.le_refl _⟩, ⟨by first | exact Kd.R_nil _ _ _ _ _ | exact Kd.N_nil _ _ _ _ _ | exact Kd.V_nil _ _ _ _ _ | exact Kd.Q_nil _ _ _ _ _ | exact Kd.S_nil _ _ _ _ _⟩, ⟨by repeat (first | (with_reducible first | exact HB.out | apply below_alloc | apply pw_below_drewN | apply below_drew1) | exact HB.out)⟩⟩
  case round =>
    clear H'
    obtain ⟨x3_1, x8_1, rfl, HA, HK1, HO_3, HB⟩ := hrel
    cases gk with
    | zero => exact absurd HA.out (by simp [hoodwinkref01_Join.l0])
    | succ k1 =>
      have H := HA.out
      clear HA
      simp only [hoodwinkref01_Join.l0] at H
      by_cases c2 : x8_1 < (l0.length : Int)
      · rw [if_pos c2] at H
        have c2b0 : decide (x8_1 < (l0.length : Int)) = true := decide_eq_true c2
        clear c2
        by_cases c3 : 0 ≤ x8_1
        · rw [if_pos c3] at H
          have c3b0 : decide (0 ≤ x8_1) = true := decide_eq_true c3
          clear c3
          by_cases c4 : x8_1 < (l0.length : Int)
          · rw [if_pos c4] at H
            have c4b0 : decide (x8_1 < (l0.length : Int)) = true := decide_eq_true c4
            clear c4
            by_cases c5 : x3_1.length + (rd_L5 l0 x8_1).length < 140737488355328
            · rw [if_pos c5] at H
              have LMc5 := Aside0.mk c5
              clear c5
              obtain ⟨y165, hy165⟩ : ∃ y_ : List Int, y_ = (x3_1 ++ (rd_L5 l0 x8_1)) := ⟨_, rfl⟩
              replace H : (hoodwinkref01_Join.l0 k1 y165 l0 (l0.length : Int) (wrap64 (x8_1 + 1))) = some r := by first | (rw [hy165]; with_reducible exact H) | (have H2_ := (Option.bind_some _ _).symm.trans H; rw [hy165]; with_reducible exact H2_) | (have H2_ := (Option.bind_some _ _).symm.trans H; with_reducible exact H2_) | with_reducible exact H | (rw [hy165]; exact H) | exact H
              have Ny165 := Aside0.mk hy165
              clear hy165
              have H' := Aside0.mk H
              clear H
              have p164 : 0 ≤ (x8_1 : Int) := of_decide_eq_true (by first | (with_reducible assumption) | assumption)
              have q164 : x8_1 < (l0.length : Int) := of_decide_eq_true (by first | (with_reducible assumption) | assumption)
              obtain ⟨ad164, A164_0, c164_0, e164, hx164_0, hl164_0, hi164_0⟩ := at_L5 HR0.out x8_1 p164 q164
              cases e164
              replace hx164_0 := (HB.out.cell (World.block_lt_of_cell? w _ hx164_0)).trans hx164_0
              have HR164_0 := Aside0.mk hi164_0
              have HC164_0 := Aside0.mk hl164_0
              clear hi164_0 hl164_0
              replace p164 := eq_true p164
              replace q164 := eq_true q164
              go_wp2_with (first | ((with_reducible refine gate_builtin (b := .append) (xs := #[.tmp 12, .tmp 13]) rfl ?_); at_builtin; refine Kd.R_append_rows (Kd.int .u8) (w0 := w) w.heap.size rfl (.tmp 12) (.tmp 13) 23 5 (.int .u8 0) 1 rfl Try.underlying23 info5 rfl (by decide) (by omega) u3 x3_1 (rd_L5 l0 x8_1) _ _ _ (fun _ => True) (fun _ => False) rfl rfl ?aO ?aR (fun _ _ h => h) (fun _ h => h.elim) ?aF ?aB ?aS ?aL ?_; (case aR => repeat (first | exact (Kd.C_below HR164_0.out HB.out) | (with_reducible refine Kd.C_alloc ?_ _) | (with_reducible refine Kd.C_drewN ?_ _) | (with_reducible refine Kd.C_drew ?_))); (case aB => exact (by repeat (first | (with_reducible first | exact HB.out | apply below_alloc | apply pw_below_drewN | apply below_drew1) | exact HB.out))); (case aF => exact (fun _ _ => trivial)); (case aO => exact (by (with_reducible repeat (first | apply Kd.R_alloc | apply Kd.R_drewN | apply Kd.R_drew)); exact HO_3.out)); (case aS => exact (below_size (by repeat (first | (with_reducible first | exact HB.out | apply below_alloc | apply pw_below_drewN | apply below_drew1) | exact HB.out)))); (case aL => have := LMc5.out; omega); intro v166 w6 ho hb hg hat; rw [← Ny165.out] at ho; have n0_ := Aside0.mk (hb); have n1_ := Aside0.mk (ho); clear HB; clear HO_3; have HB := n0_; have HO167 := n1_; clear n0_ n1_; clear ho hb hg hat))
              go_roundg k1
              case measure => have := HK1.out; omega
              case rel => exact ⟨(y165), (wrap64 (x8_1 + 1)), (by first | rfl | (simp; done) | (simp [*]; done)), H', ⟨by have := HK1.out; omega⟩, ⟨by (with_reducible repeat (first | apply Kd.R_alloc | apply Kd.R_drewN | apply Kd.R_drew)); exact HO167.out⟩, ⟨by repeat (first | (with_reducible first | exact HB.out | apply below_alloc | apply pw_below_drewN | apply below_drew1) | exact HB.out)⟩⟩
            · rw [if_neg c5] at H
              exact absurd H (by simp)
          · rw [if_neg c4] at H
            exact absurd H (by simp)
        · rw [if_neg c3] at H
          exact absurd H (by simp)
      · rw [if_neg c2] at H
        have c2b0 : decide (x8_1 < (l0.length : Int)) = false := decide_eq_false c2
        clear c2
        obtain rfl := Option.some.inj H
        go_wp2
        go_ret
        exact ⟨_, by first | rfl | (simp [errW_none, errW_some] <;> rfl) | (simp [*, errW_none, errW_some] <;> rfl), by (with_reducible repeat (first | apply Kd.R_alloc | apply Kd.R_drewN | apply Kd.R_drew)); exact HO_3.out, by repeat (first | (with_reducible first | exact HB.out | apply below_alloc | apply pw_below_drewN | apply below_drew1) | exact HB.out)⟩

def hoodwinkref01_Low.l0 : Nat → Int → Int → List Int → Int → Option (List Int)
  | 0, _, _, _, _ => none
  | k + 1, x0, x1, x5, x6 => if x6 < x1 then (if x5.length < 140737488355328 then (hoodwinkref01_Low.l0 k (IntKind.u64.wrap (Int.tdiv x0 256)) x1 (x5 ++ [(Int.tmod x0 256) % 256]) (wrap64 (x6 + 1))) else (none)) else (some x5)
def hoodwinkref01_Low.f (k : Nat) (a0 : Int) (a1 : Int) : Option (List Int) := hoodwinkref01_Low.l0 k a0 a1 ([] : List Int) 0
set_option maxHeartbeats 8000000 in
set_option maxRecDepth 100000 in
theorem hoodwinkref01_Low.calls (k : Nat) (a0 : Int) (a1 : Int) (r : List Int) (w : World) (h : hoodwinkref01_Low.f k a0 a1 = some r) :
    Calls Try.prog 48 #[.int .u64 a0, .int .i64 a1] w fun e w' => ∃ v0_ : Value, e = .returned (v0_) ∧ Kd.R (Kd.int .u8) 5 w' w.heap.size (fun _ => True) v0_ r ∧ Below w.heap.size w w' := by
  have HB := Aside0.mk (Below.refl w.heap.size w)
  have H : (hoodwinkref01_Low.l0 k a0 a1 ([] : List Int) 0) = some r := h
  clear h
  have H' := Aside0.mk H
  clear H
  go_enter Try.func48, Try.ntmps48
  go_wp2
  go_loopg [0, 5, 6] k (fun kq v0 v5 v6 w' => ∃ (x0_1 : Int) (x5_1 : List Int) (x6_1 : Int), v0 = .int .u64 x0_1 ∧ v6 = .int .i64 x6_1 ∧ Aside0 (hoodwinkref01_Low.l0 kq x0_1 a1 x5_1 x6_1 = some r) ∧ Aside0 (kq ≤ k) ∧ Aside0 (Kd.R (Kd.int .u8) 5 w' w.heap.size (fun _ => True) v5 x5_1) ∧ Aside0 (Below w.heap.size w w'))
  case atStart => exact ⟨(a0), (([] : List Int)), (0), (by first | rfl | (simp; done) | (simp [*]; done)), (by first | rfl | (simp; done) | (simp [*]; done)), H', ⟨Nat.le_refl _⟩, ⟨by first | exact Kd.R_nil _ _ _ _ _ | exact Kd.N_nil _ _ _ _ _ | exact Kd.V_nil _ _ _ _ _ | exact Kd.Q_nil _ _ _ _ _ | exact Kd.S_nil _ _ _ _ _⟩, ⟨by repeat (first | (with_reducible first | exact HB.out | apply below_alloc | apply pw_below_drewN | apply below_drew1) | exact HB.out)⟩⟩
  case round =>
    clear H'
    try clear p2
    obtain ⟨x0_1, x5_1, x6_1, rfl, rfl, HA, HK1, HO_5, HB⟩ := hrel
    cases gk with
    | zero => exact absurd HA.out (by simp [hoodwinkref01_Low.l0])
    | succ k1 =>
      have H := HA.out
      clear HA
      simp only [hoodwinkref01_Low.l0] at H
      by_cases c3 : x6_1 < a1
      · rw [if_pos c3] at H
        have c3b0 : decide (x6_1 < a1) = true := decide_eq_true c3
        clear c3
        by_cases c4 : x5_1.length < 140737488355328
        · rw [if_pos c4] at H
          have LMc4 := Aside0.mk c4
          clear c4
          obtain ⟨y168, hy168⟩ : ∃ y_ : List Int, y_ = (x5_1 ++ [(Int.tmod x0_1 256) % 256]) := ⟨_, rfl⟩
          replace H : (hoodwinkref01_Low.l0 k1 (IntKind.u64.wrap (Int.tdiv x0_1 256)) a1 y168 (wrap64 (x6_1 + 1))) = some r := by first | (rw [hy168]; with_reducible exact H) | (have H2_ := (Option.bind_some _ _).symm.trans H; rw [hy168]; with_reducible exact H2_) | (have H2_ := (Option.bind_some _ _).symm.trans H; with_reducible exact H2_) | with_reducible exact H | (rw [hy168]; exact H) | exact H
          have Ny168 := Aside0.mk hy168
          clear hy168
          have H' := Aside0.mk H
          clear H
          go_wp2_with (first | ((with_reducible refine gate_builtin (b := .append) (xs := #[.tmp 12, .tmp 16]) rfl ?_); at_builtin; refine Kd.R_append (Kd.int .u8) (w0 := w) w.heap.size rfl (.tmp 12) (.tmp 16) 23 5 (.int .u8 0) 1 rfl Try.underlying23 info5 rfl (by decide) (by omega) u5 x5_1 ((Int.tmod x0_1 256) % 256) [.int .u8 ((Int.tmod x0_1 256) % 256)] (fun _ => True) (fun _ => False) rfl rfl ?aP (fun _ hk => hk.elim) ?aF ?aO ?aB ?aS ?aL ?_; (case aP => exact rfl); (case aB => exact (by repeat (first | (with_reducible first | exact HB.out | apply below_alloc | apply pw_below_drewN | apply below_drew1) | exact HB.out))); (case aF => exact (fun _ _ => trivial)); (case aO => exact (by (with_reducible repeat (first | apply Kd.R_alloc | apply Kd.R_drewN | apply Kd.R_drew)); exact HO_5.out)); (case aS => exact (below_size (by repeat (first | (with_reducible first | exact HB.out | apply below_alloc | apply pw_below_drewN | apply below_drew1) | exact HB.out)))); (case aL => have := LMc4.out; omega); intro v169 w5 ho hb hg hat; rw [← Ny168.out] at ho; have n0_ := Aside0.mk (hb); have n1_ := Aside0.mk (ho); clear HB; clear HO_5; have HB := n0_; have HO170 := n1_; clear n0_ n1_; clear ho hb hg hat))
          go_roundg k1
          case measure => have := HK1.out; omega
          case rel => exact ⟨(IntKind.u64.wrap (Int.tdiv x0_1 256)), (y168), (wrap64 (x6_1 + 1)), (by first | rfl | (simp; done) | (simp [*]; done)), (by first | rfl | (simp; done) | (simp [*]; done)), H', ⟨by have := HK1.out; omega⟩, ⟨by (with_reducible repeat (first | apply Kd.R_alloc | apply Kd.R_drewN | apply Kd.R_drew)); exact HO170.out⟩, ⟨by repeat (first | (with_reducible first | exact HB.out | apply below_alloc | apply pw_below_drewN | apply below_drew1) | exact HB.out)⟩⟩
        · rw [if_neg c4] at H
          exact absurd H (by simp)
      · rw [if_neg c3] at H
        have c3b0 : decide (x6_1 < a1) = false := decide_eq_false c3
        clear c3
        obtain rfl := Option.some.inj H
        go_wp2
        go_ret
        exact ⟨_, by first | rfl | (simp [errW_none, errW_some] <;> rfl) | (simp [*, errW_none, errW_some] <;> rfl), by (with_reducible repeat (first | apply Kd.R_alloc | apply Kd.R_drewN | apply Kd.R_drew)); exact HO_5.out, by repeat (first | (with_reducible first | exact HB.out | apply below_alloc | apply pw_below_drewN | apply below_drew1) | exact HB.out)⟩

-- NOT PRINTED: function 3 (hoodwinklaw11_FrameSays)

end Go.Proofs.Yticpjidcgaaldaa

namespace Go.Proofs.Yticpjidcgaaldaa
open Go.RowKit Go.Proofs.YticpjidcgaaldaaW.PrintWords Go.Proofs.YticpjidcgaaldaaW.PrintLast Go.Proofs.YticpjidcgaaldaaW.PrintMore

def Bytes (l : List Int) : Prop := ∀ b ∈ l, 0 ≤ b ∧ b < 256
theorem Bytes.nat {l : List Int} (h : Bytes l) {j : Nat} (hj : j < l.length) : ∃ n : Nat, l[j] = (n : Int) ∧ n < 256 := by
  have := h _ (List.getElem_mem hj)
  exact ⟨l[j].toNat, by omega, by omega⟩
theorem Bytes.append {a b : List Int} (ha : Bytes a) (hb : Bytes b) : Bytes (a ++ b) := fun x hx => (List.mem_append.1 hx).elim (ha x) (hb x)
theorem Bytes.take {a : List Int} (ha : Bytes a) (k : Nat) : Bytes (a.take k) := fun x hx => ha x (List.mem_of_mem_take hx)
theorem Bytes.drop {a : List Int} (ha : Bytes a) (k : Nat) : Bytes (a.drop k) := fun x hx => ha x (List.mem_of_mem_drop hx)
theorem Bytes.nil : Bytes [] := fun x hx => by cases hx
theorem Bytes.flatten {l : List (List Int)} (h : ∀ p ∈ l, Bytes p) : Bytes l.flatten := fun x hx => by
  obtain ⟨p, hp, hxp⟩ := List.mem_flatten.1 hx
  exact h p hp x hxp

theorem rd_getElem {xs : List Int} {j : Nat} (h : j < xs.length) : rd xs (j : Int) = xs[j] := by
  unfold rd; rw [List.getD_eq_getElem?_getD, Int.toNat_natCast, List.getElem?_eq_getElem h]; rfl
theorem take_snoc {α : Type} {xs : List α} {j : Nat} (h : j < xs.length) : xs.take (j + 1) = xs.take j ++ [xs[j]] := List.take_succ_eq_append_getElem h

theorem int_at {k : IntKind} {w : World} {A : Option Addr} {n : Nat} {xs : List Int} (h : (Kd.int k).C w A n xs) (j : Nat) (hj : j < xs.length) : ∃ ad, A = some ad ∧ w.cell? (ad.add j) = some (.int k xs[j]) := by
  have hn := h.1
  obtain ⟨ad, e, hc⟩ := Kd.at_int h (j : Int) (by omega) (by omega)
  rw [rd_getElem hj, Int.toNat_natCast] at hc
  exact ⟨ad, e, hc⟩
theorem C_none {α : Type} {d : Kd α} {w : World} {n : Nat} {xs : List α} (h : d.C w none n xs) : xs = [] := by
  have h1 := h.1
  cases xs with
  | nil => rfl
  | cons x l =>
    exfalso
    obtain ⟨ad, e, _⟩ := h.2.2 (by simp at h1; omega)
    cases e
theorem R_made0 {α : Type} (d : Kd α) (e : Nat) (w : World) (base : Nat) (hb : base ≤ w.heap.size) : d.R e (w.alloc (.cells #[] e)) base (fun _ => True) (.slice (some ⟨w.heap.size, 0, none⟩) 0 0) [] :=
  ⟨fun _ _ => trivial, [], World.ownsRow_made w #[] 0 hb (Nat.zero_le _) (by simp), Reps.none _ _⟩

theorem C_one_row {α : Type} {d : Kd α} {e t : Nat} {W : World} {g : Nat} {A : Option Addr} {n c : Nat} {l : List α} (hg : W.heap.size = g) (h : d.C W A n l) (hc : n ≤ c) :
    (Kd.slice e d).C (W.alloc (.cells #[.slice A n c] t)) (some ⟨g, 0, none⟩) 1 [l] := by
  obtain rfl := h.1
  subst hg
  refine ⟨rfl, by simp, fun _ => ⟨_, rfl, fun j p hj => ?_⟩⟩
  have hj0 : j = 0 := by
    have := (List.getElem?_eq_some_iff.1 hj).1
    simp at this; exact this
  subst hj0
  obtain rfl : l = p := by simpa using hj
  refine ⟨[.slice A l.length c], rfl, ⟨A, c, rfl, hc, Kd.C_alloc h _⟩, fun i u hu => ?_⟩
  have hi0 : i = 0 := by
    have := (List.getElem?_eq_some_iff.1 hu).1
    simp at this; exact this
  subst hi0
  obtain rfl : Value.slice A l.length c = u := by simpa using hu
  show (W.alloc _).cell? ((⟨W.heap.size, 0, none⟩ : Addr).add 0) = _
  rw [add_plain, World.cell?_alloc_at _ _ _ _ rfl]; rfl

theorem C_of_block {k : IntKind} {w : World} {g : Nat} {t : TypeId} {fr : Nat × Nat} {cs : Array Value} {n : Nat} {xs : List Int} (hg : w.heap[g]? = some (.cells cs t fr)) (hx : cs.toList = xs.map (Value.int k) ∧ xs.length = n ∧ n ≤ 9223372036854775807) :
    (Kd.int k).C w (some ⟨g, 0, none⟩) n xs := by
  refine ⟨hx.2.1, hx.2.2, fun _ => ⟨_, rfl, fun j p hj => ⟨[.int k p], rfl, rfl, fun i u hu => ?_⟩⟩⟩
  have hi0 : i = 0 := by
    have := (List.getElem?_eq_some_iff.1 hu).1
    simp at this; exact this
  subst hi0
  obtain rfl : Value.int k p = u := by simpa using hu
  show w.cell? ((⟨g, 0, none⟩ : Addr).add (j * 1 + 0)) = _
  rw [add_plain, Nat.mul_one, Nat.add_zero, cell_of_row w g j cs t fr hg, ← Array.getElem?_toList, hx.1, List.getElem?_map, hj]; rfl

theorem C_of_rows {α : Type} {d : Kd α} {e : Nat} {w : World} {g : Nat} {t : TypeId} {fr : Nat × Nat} {cs : Array Value} {n : Nat} {xs : List (List α)} (hg : w.heap[g]? = some (.cells cs t fr)) (hn : xs.length = n) (hm : n ≤ 9223372036854775807)
    (hx : ∀ (j : Nat) (p : List α), xs[j]? = some p → ∃ A c, cs[j]? = some (Value.slice A p.length c) ∧ p.length ≤ c ∧ d.C w A p.length p) :
    (Kd.slice e d).C w (some ⟨g, 0, none⟩) n xs := by
  refine ⟨hn, hm, fun _ => ⟨_, rfl, fun j p hj => ?_⟩⟩
  obtain ⟨A, c, hc, hl, hC⟩ := hx j p hj
  refine ⟨[.slice A p.length c], rfl, ⟨A, c, rfl, hl, hC⟩, fun i u hu => ?_⟩
  have hi0 : i = 0 := by
    have := (List.getElem?_eq_some_iff.1 hu).1
    simp at this; exact this
  subst hi0
  obtain rfl : Value.slice A p.length c = u := by simpa using hu
  show w.cell? ((⟨g, 0, none⟩ : Addr).add (j * 1 + 0)) = _
  rw [add_plain, Nat.mul_one, Nat.add_zero, cell_of_row w g j cs t fr hg, hc]
theorem C_of_two {α : Type} {d : Kd α} {e : Nat} {w : World} {g : Nat} {t : TypeId} {fr : Nat × Nat} {A B : Option Addr} {n m c c' : Nat} {x y : List α} (hg : w.heap[g]? = some (.cells #[.slice A n c, .slice B m c'] t fr))
    (hx : d.C w A n x) (hc : n ≤ c) (hy : d.C w B m y) (hc' : m ≤ c') : (Kd.slice e d).C w (some ⟨g, 0, none⟩) 2 [x, y] := by
  obtain rfl := hx.1
  obtain rfl := hy.1
  refine C_of_rows hg rfl (by omega) fun j p hj => ?_
  match j with
  | 0 => obtain rfl : x = p := by simpa using hj
         exact ⟨A, c, rfl, hc, hx⟩
  | 1 => obtain rfl : y = p := by simpa using hj
         exact ⟨B, c', rfl, hc', hy⟩
  | j + 2 => simp at hj

section
variable {P : Program} {ops : Array Oper} {o : Oper} {a : Act} {w0 W : World} {Kc : Act → World → Prop} {Q : Exit → Act → World → Prop} {rest : List Oper}
theorem R_app (k : IntKind) (base : Nat) (hgd : o.guard = none) (s x : Operand) (t e : TypeId) (bytes : Nat)
    (ho : o.op = .call { callee := .builtin .append, args := #[s, x], argTypes := #[t, t] })
    (ht : P.underlying t = some (.slice e)) (hinfo : (P.info? e).map (fun i => (i.zero, i.size, i.bytes)) = some (some (.int k 0), 1, bytes)) (hb0 : 0 < bytes)
    (v : Value) (xs ys : List Int) (A : Option Addr) (m c : Nat) (ok : Nat → Prop) (hs : a.eval s = v) (hx : a.eval x = .slice A m c)
    (HO : (Kd.int k).R e W base ok v xs) (HR : (Kd.int k).C W A m ys) (hfresh : ∀ k, W.heap.size ≤ k → ok k)
    (HB : Below base w0 W) (hbase : base ≤ W.heap.size) (hl : (xs.length + m) * bytes ≤ 140737488355328)
    (h : ∀ v1 w1, (Kd.int k).R e w1 base ok v1 (xs ++ ys) → Below base w0 w1 → W.grownBy w1 v.ownBlock → (v1.ownBlock = v.ownBlock ∨ ∃ b, v1.ownBlock = some b ∧ W.heap.size ≤ b) → wpList P ops Q rest (a.put o.dst v1) w1) :
    wpList P ops Q (o :: rest) a W :=
  Kd.R_append_row (Value.int k) (0 : Int) (h1 := fun _ => rfl) (w0 := w0) base hgd s x t e (.int k 0) bytes ho ht hinfo rfl hb0 v xs ys A m c ok hs hx hfresh HO HR HB hbase hl h
end

end Go.Proofs.Yticpjidcgaaldaa

namespace Go.Proofs.Yticpjidcgaaldaa
open Go.RowKit Go.Proofs.YticpjidcgaaldaaW.PrintWords Go.Proofs.YticpjidcgaaldaaW.PrintLast Go.Proofs.YticpjidcgaaldaaW.PrintMore
set_option linter.unusedVariables false
set_option linter.unusedSimpArgs false

def cellsF (f : Nat → S59) : Nat → List Value
  | 0 => []
  | k + 1 => cellsF f k ++ [.int .i32 (f k).f0, .int .u32 (f k).f1]
theorem cellsF_length (f : Nat → S59) : ∀ k, (cellsF f k).length = 2 * k
  | 0 => rfl
  | k + 1 => by simp only [cellsF, List.length_append, cellsF_length f k, List.length_cons, List.length_nil]; omega
theorem cellsF_lo (f : Nat → S59) : ∀ (k j : Nat), j < k → (cellsF f k)[2 * j]? = some (.int .i32 (f j).f0)
  | 0, j, h => by omega
  | k + 1, j, h => by
    simp only [cellsF]
    by_cases hj : j < k
    · rw [List.getElem?_append_left (by rw [cellsF_length]; omega), cellsF_lo f k j hj]
    · obtain rfl : j = k := by omega
      rw [List.getElem?_append_right (by rw [cellsF_length]; omega), cellsF_length, Nat.sub_self]; rfl
theorem cellsF_hi (f : Nat → S59) : ∀ (k j : Nat), j < k → (cellsF f k)[2 * j + 1]? = some (.int .u32 (f j).f1)
  | 0, j, h => by omega
  | k + 1, j, h => by
    simp only [cellsF]
    by_cases hj : j < k
    · rw [List.getElem?_append_left (by rw [cellsF_length]; omega), cellsF_hi f k j hj]
    · obtain rfl : j = k := by omega
      rw [List.getElem?_append_right (by rw [cellsF_length]; omega), cellsF_length, show 2 * j + 1 - 2 * j = 1 by omega]; rfl
def boardL (f : Nat → S59) (n : Int) : List Value := cellsF f 48 ++ [.int .i64 n]
def boardC (f : Nat → S59) (n : Int) : Array Value := (boardL f n).toArray
theorem boardL_length (f : Nat → S59) (n : Int) : (boardL f n).length = 97 := by simp [boardL, cellsF_length]
theorem boardC_size (f : Nat → S59) (n : Int) : (boardC f n).size = 97 := by simp [boardC, boardL_length]
theorem boardC_lo (f : Nat → S59) (n : Int) {j : Nat} (h : j < 48) : (boardC f n)[2 * j]? = some (.int .i32 (f j).f0) := by
  simp only [boardC, List.getElem?_toArray, boardL]
  rw [List.getElem?_append_left (by rw [cellsF_length]; omega), cellsF_lo f 48 j h]
theorem boardC_hi (f : Nat → S59) (n : Int) {j : Nat} (h : j < 48) : (boardC f n)[2 * j + 1]? = some (.int .u32 (f j).f1) := by
  simp only [boardC, List.getElem?_toArray, boardL]
  rw [List.getElem?_append_left (by rw [cellsF_length]; omega), cellsF_hi f 48 j h]
def flatC : List S59 → List Value
  | [] => []
  | c :: L => .int .i32 c.f0 :: .int .u32 c.f1 :: flatC L
def Bd (w : World) (g : Nat) (f : Nat → S59) (n : Int) : Prop := w.heap[g]? = some (.cells (boardC f n) 62 (0, 0))
theorem Bd.lo {w : World} {g : Nat} {f : Nat → S59} {n : Int} (h : Bd w g f n) {j : Nat} (hj : j < 48) : w.cell? ⟨g, 2 * j, none⟩ = some (.int .i32 (f j).f0) := (blk_cell h (2 * j)).trans (boardC_lo f n hj)
theorem Bd.hi {w : World} {g : Nat} {f : Nat → S59} {n : Int} (h : Bd w g f n) {j : Nat} (hj : j < 48) : w.cell? ⟨g, 2 * j + 1, none⟩ = some (.int .u32 (f j).f1) := (blk_cell h (2 * j + 1)).trans (boardC_hi f n hj)
end Go.Proofs.Yticpjidcgaaldaa

namespace Go.Proofs.Yticpjidcgaaldaa
open Go.RowKit Go.Proofs.YticpjidcgaaldaaW.PrintWords Go.Proofs.YticpjidcgaaldaaW.PrintLast Go.Proofs.YticpjidcgaaldaaW.PrintMore
set_option linter.unusedVariables false
set_option linter.unusedSimpArgs false

end Go.Proofs.Yticpjidcgaaldaa

namespace Go.Proofs.Yticpjidcgaaldaa
open Go.RowKit Go.Proofs.YticpjidcgaaldaaW.PrintWords Go.Proofs.YticpjidcgaaldaaW.PrintLast Go.Proofs.YticpjidcgaaldaaW.PrintMore
set_option linter.unusedVariables false
set_option linter.unusedSimpArgs false

end Go.Proofs.Yticpjidcgaaldaa

namespace Go.Proofs.Yticpjidcgaaldaa
open Go.RowKit Go.Proofs.YticpjidcgaaldaaW.PrintWords Go.Proofs.YticpjidcgaaldaaW.PrintLast Go.Proofs.YticpjidcgaaldaaW.PrintMore
set_option linter.unusedVariables false
set_option linter.unusedSimpArgs false

theorem Ru_C {α : Type} {d : Kd α} {e base n c : Nat} {w : World} {ok : Nat → Prop} {Q : Option Addr} {xs : List α} (h : d.R e w base ok (.slice Q n c) xs) : xs.length = n ∧ n ≤ c ∧ d.C w Q n xs := by
  obtain ⟨A, c', he, hl, hC⟩ := Kd.R_reads h
  injection he with h1 h2 h3
  subst h1 h2 h3
  exact ⟨rfl, hl, hC⟩
theorem cell_full : (Try.prog.info? 59).map (fun i => (i.zero, i.size, i.bytes)) = some (some (.agg #[.int .i32 0, .int .u32 0]), 2, 8) := by kernel_rfl
end Go.Proofs.Yticpjidcgaaldaa

namespace Go.Proofs.Yticpjidcgaaldaa
open Go.RowKit Go.Proofs.YticpjidcgaaldaaW.PrintWords Go.Proofs.YticpjidcgaaldaaW.PrintLast Go.Proofs.YticpjidcgaaldaaW.PrintMore
set_option linter.unusedVariables false
set_option linter.unusedSimpArgs false

end Go.Proofs.Yticpjidcgaaldaa

namespace Go.Proofs.Yticpjidcgaaldaa
open Go.RowKit Go.Proofs.YticpjidcgaaldaaW.PrintWords Go.Proofs.YticpjidcgaaldaaW.PrintLast Go.Proofs.YticpjidcgaaldaaW.PrintMore
set_option linter.unusedVariables false

end Go.Proofs.Yticpjidcgaaldaa

namespace Go.Proofs.Yticpjidcgaaldaa
open Go.RowKit Go.Proofs.YticpjidcgaaldaaW.PrintWords Go.Proofs.YticpjidcgaaldaaW.PrintLast Go.Proofs.YticpjidcgaaldaaW.PrintMore
set_option linter.unusedVariables false
set_option linter.unusedSimpArgs false

theorem C_one_cell {w : World} {g : Nat} {x : S59} (h : w.heap[g]? = some (.cells #[.int .i32 x.f0, .int .u32 x.f1] 59 (0, 0))) : k59.C w (some ⟨g, 0, none⟩) 1 [x] := by
  refine ⟨rfl, by decide, fun _ => ⟨_, rfl, fun j p hj => ?_⟩⟩
  have hj0 : j = 0 := by
    have := (List.getElem?_eq_some_iff.1 hj).1
    simp at this; exact this
  subst hj0
  obtain rfl : x = p := by simpa using hj
  refine ⟨[.int .i32 x.f0, .int .u32 x.f1], rfl, k59_mk w x, fun i u hu => ?_⟩
  show w.cell? ((⟨g, 0, none⟩ : Addr).add (0 * 2 + i)) = _
  rw [add_plain, Nat.zero_mul, Nat.zero_add]
  match i, hu with
  | 0, hu => exact (blk_cell h 0).trans hu
  | 1, hu => exact (blk_cell h 1).trans hu
  | i + 2, hu => simp at hu
end Go.Proofs.Yticpjidcgaaldaa

namespace Go.Proofs.Yticpjidcgaaldaa
open Go.RowKit Go.Proofs.YticpjidcgaaldaaW.PrintWords Go.Proofs.YticpjidcgaaldaaW.PrintLast Go.Proofs.YticpjidcgaaldaaW.PrintMore
set_option linter.unusedVariables false
set_option linter.unusedSimpArgs false

theorem flatC_get : ∀ (L : List S59) (i : Nat) (h : i < L.length), (flatC L)[2 * i]? = some (.int .i32 L[i].f0) ∧ (flatC L)[2 * i + 1]? = some (.int .u32 L[i].f1)
  | [], i, h => by simp at h
  | c :: L, 0, h => ⟨rfl, rfl⟩
  | c :: L, i + 1, h => by
    have ih := flatC_get L i (by simpa using h)
    rw [show 2 * (i + 1) = 2 * i + 1 + 1 by omega]
    simp only [flatC, List.getElem?_cons_succ, List.getElem_cons_succ]
    exact ih
theorem flatC_set : ∀ (L : List S59) (i : Nat) (h : i < L.length) (a b : Int), ((flatC L).set (2 * i) (.int .i32 a)).set (2 * i + 1) (.int .u32 b) = flatC (L.set i ⟨a, b⟩)
  | [], i, h, a, b => by simp at h
  | c :: L, 0, h, a, b => rfl
  | c :: L, i + 1, h, a, b => by
    have ih := flatC_set L i (by simpa using h) a b
    rw [show 2 * (i + 1) = 2 * i + 1 + 1 by omega]
    simp only [flatC, List.set_cons_succ]
    rw [ih]
def Rc (w : World) (g : Nat) (L : List S59) : Prop := w.heap[g]? = some (.cells (flatC L).toArray 59 (0, 0))
theorem Rc.lo {w : World} {g : Nat} {L : List S59} (h : Rc w g L) {i : Nat} (hi : i < L.length) : w.cell? ⟨g, 2 * i, none⟩ = some (.int .i32 L[i].f0) := (blk_cell h (2 * i)).trans (by rw [List.getElem?_toArray]; exact (flatC_get L i hi).1)
theorem Rc.hi {w : World} {g : Nat} {L : List S59} (h : Rc w g L) {i : Nat} (hi : i < L.length) : w.cell? ⟨g, 2 * i + 1, none⟩ = some (.int .u32 L[i].f1) := (blk_cell h (2 * i + 1)).trans (by rw [List.getElem?_toArray]; exact (flatC_get L i hi).2)
theorem Rc.set {w : World} {g : Nat} {L : List S59} (h : Rc w g L) {i : Nat} (hi : i < L.length) (a b : Int) : Rc ((w.setCell ⟨g, 2 * i, none⟩ (.int .i32 a)).setCell ⟨g, 2 * i + 1, none⟩ (.int .u32 b)) g (L.set i ⟨a, b⟩) := by
  refine (blk_set (blk_set h (2 * i) _) (2 * i + 1) _).trans ?_
  rw [← flatC_set L i hi a b]
  congr 2
  apply Array.ext'
  simp
theorem Rc.reads {w : World} {g : Nat} {L : List S59} (h : Rc w g L) (hm : L.length ≤ 1000000) : k59.C w (some ⟨g, 0, none⟩) L.length L := by
  refine ⟨rfl, by omega, fun _ => ⟨_, rfl, fun j p hj => ?_⟩⟩
  obtain ⟨hjl, rfl⟩ := List.getElem?_eq_some_iff.1 hj
  refine ⟨[.int .i32 L[j].f0, .int .u32 L[j].f1], rfl, k59_mk w _, fun i u hu => ?_⟩
  show w.cell? ((⟨g, 0, none⟩ : Addr).add (j * 2 + i)) = _
  rw [add_plain, Nat.mul_comm]
  match i, hu with
  | 0, hu => exact (h.lo hjl).trans hu
  | 1, hu => exact (h.hi hjl).trans hu
  | i + 2, hu => simp at hu
end Go.Proofs.Yticpjidcgaaldaa

namespace Go.Proofs.Yticpjidcgaaldaa
open Go.RowKit Go.Proofs.YticpjidcgaaldaaW.PrintWords Go.Proofs.YticpjidcgaaldaaW.PrintLast Go.Proofs.YticpjidcgaaldaaW.PrintMore
set_option linter.unusedVariables false
set_option linter.unusedSimpArgs false

end Go.Proofs.Yticpjidcgaaldaa

namespace Go.Proofs.Yticpjidcgaaldaa
open Go.RowKit Go.Proofs.YticpjidcgaaldaaW.PrintWords Go.Proofs.YticpjidcgaaldaaW.PrintLast Go.Proofs.YticpjidcgaaldaaW.PrintMore
set_option linter.unusedVariables false
set_option linter.unusedSimpArgs false

end Go.Proofs.Yticpjidcgaaldaa

namespace Go.Proofs.Yticpjidcgaaldaa
open Go.RowKit Go.Proofs.YticpjidcgaaldaaW.PrintWords Go.Proofs.YticpjidcgaaldaaW.PrintLast Go.Proofs.YticpjidcgaaldaaW.PrintMore
set_option linter.unusedVariables false
set_option linter.unusedSimpArgs false

def Rk (w : World) (g i k : Nat) (f : Nat → S59) : Prop := ∃ cur, w.heap[g]? = some (.cells cur 59 (0, 0)) ∧ ∀ j, i ≤ j → j < k → cur[2 * j]? = some (.int .i32 (f j).f0) ∧ cur[2 * j + 1]? = some (.int .u32 (f j).f1)
theorem Rk.lo {w : World} {g i k : Nat} {f : Nat → S59} (h : Rk w g i k f) {j : Nat} (h1 : i ≤ j) (h2 : j < k) : w.cell? ⟨g, 2 * j, none⟩ = some (.int .i32 (f j).f0) := by
  obtain ⟨cur, hb, hc⟩ := h
  exact (blk_cell hb (2 * j)).trans (hc j h1 h2).1
theorem Rk.hi {w : World} {g i k : Nat} {f : Nat → S59} (h : Rk w g i k f) {j : Nat} (h1 : i ≤ j) (h2 : j < k) : w.cell? ⟨g, 2 * j + 1, none⟩ = some (.int .u32 (f j).f1) := by
  obtain ⟨cur, hb, hc⟩ := h
  exact (blk_cell hb (2 * j + 1)).trans (hc j h1 h2).2
theorem Rk.block {w w1 : World} {g i k : Nat} {f : Nat → S59} (h : Rk w g i k f) (e : w1.heap[g]? = w.heap[g]?) : Rk w1 g i k f := by
  obtain ⟨cur, hb, hc⟩ := h
  exact ⟨cur, e.trans hb, hc⟩
theorem Rk.lt {w : World} {g i k : Nat} {f : Nat → S59} (h : Rk w g i k f) : g < w.heap.size := by
  obtain ⟨cur, hb, hc⟩ := h
  exact (Array.getElem?_eq_some_iff.1 hb).1
theorem Rk.below {w w1 : World} {g i k : Nat} {f : Nat → S59} (h : Rk w g i k f) (e : Below w.heap.size w w1) : Rk w1 g i k f := h.block (e.block _ h.lt)
theorem Rc.block {w w1 : World} {g : Nat} {L : List S59} (h : Rc w g L) (e : w1.heap[g]? = w.heap[g]?) : Rc w1 g L := e.trans h
theorem Rc.below {w w1 : World} {g : Nat} {L : List S59} (h : Rc w g L) (e : Below w.heap.size w w1) : Rc w1 g L := blk_below h e
end Go.Proofs.Yticpjidcgaaldaa

namespace Go.Proofs.Yticpjidcgaaldaa

end Go.Proofs.Yticpjidcgaaldaa

namespace Go.Proofs.Yticpjidcgaaldaa
open Go.RowKit Go.Proofs.YticpjidcgaaldaaW.PrintWords Go.Proofs.YticpjidcgaaldaaW.PrintLast Go.Proofs.YticpjidcgaaldaaW.PrintMore
set_option linter.unusedVariables false

def Only (L : List (Nat × Obj)) (W W' : World) : Prop := Below 0 W W' ∧ ∀ k, k < W.heap.size → (∀ p ∈ L, p.1 ≠ k) → W'.heap[k]? = W.heap[k]?
def Dist (L : List (Nat × Obj)) : Prop := ∀ (i j : Nat) (p q : Nat × Obj), L[i]? = some p → L[j]? = some q → p.1 = q.1 → i = j
def Hp (B : Nat) (w0 W : World) (L : List (Nat × Obj)) (F : List (World → Prop)) : Prop :=
  Below B w0 W ∧ (∀ p ∈ L, W.heap[p.1]? = some p.2 ∧ B ≤ p.1) ∧ Dist L ∧ B ≤ W.heap.size ∧ ∀ φ ∈ F, ∀ W', Only L W W' → φ W'
section
variable {B : Nat} {w0 W W1 : World} {L : List (Nat × Obj)} {F : List (World → Prop)}
theorem below_zero {B : Nat} {w w1 : World} (h : Below B w w1) : Below 0 w w1 := h.mono (Nat.zero_le _)
theorem Only.refl (L : List (Nat × Obj)) (W : World) : Only L W W := ⟨Below.refl _ _, fun _ _ _ => rfl⟩
theorem Hp.start (w : World) : Hp w.heap.size w w [] [] := ⟨Below.refl _ _, (fun p h => by cases h), (fun i j p q h => by simp at h), Nat.le_refl _, (fun φ h => by cases h)⟩
theorem Hp.bel (h : Hp B w0 W L F) : Below B w0 W := h.1
theorem Hp.le (h : Hp B w0 W L F) : B ≤ W.heap.size := h.2.2.2.1
theorem Hp.get {i g : Nat} {o : Obj} (h : Hp B w0 W L F) (hi : L[i]? = some (g, o)) : W.heap[g]? = some o := (h.2.1 _ (List.mem_of_getElem? hi)).1
theorem Hp.ge {i g : Nat} {o : Obj} (h : Hp B w0 W L F) (hi : L[i]? = some (g, o)) : B ≤ g := (h.2.1 _ (List.mem_of_getElem? hi)).2
theorem Hp.lt {i g : Nat} {o : Obj} (h : Hp B w0 W L F) (hi : L[i]? = some (g, o)) : g < W.heap.size := blk_lt (h.get hi)
theorem Hp.fact {i : Nat} {φ : World → Prop} (h : Hp B w0 W L F) (hi : F[i]? = some φ) : φ W := h.2.2.2.2 φ (List.mem_of_getElem? hi) W (Only.refl _ _)
theorem Hp.call (h : Hp B w0 W L F) (hb : Below W.heap.size W W1) : Hp B w0 W1 L F :=
  ⟨h.1.trans (hb.mono h.le), fun p hp => ⟨blk_below (h.2.1 p hp).1 hb, (h.2.1 p hp).2⟩, h.2.2.1, Nat.le_trans h.le hb.size, fun φ hφ W' ho => h.2.2.2.2 φ hφ W' ⟨(below_zero hb).trans ho.1, fun k hk hn => (ho.2 k (Nat.lt_of_lt_of_le hk hb.size) hn).trans (hb.block k hk)⟩⟩
theorem Hp.drew (h : Hp B w0 W L F) : Hp B w0 W.drew L F := h.call (below_drew (Below.refl _ _))
theorem Hp.box (h : Hp B w0 W L F) (o : Obj) : Hp B w0 (W.alloc o) L F := h.call (below_alloc (Below.refl _ _) o)
theorem Hp.alloc (h : Hp B w0 W L F) (o : Obj) : Hp B w0 (W.alloc o) ((W.heap.size, o) :: L) F := by
  have h1 := h.box o
  refine ⟨h1.1, fun p hp => ?_, ?_, h1.2.2.2.1, fun φ hφ W' ho => ?_⟩
  · rcases List.mem_cons.1 hp with rfl | hp
    · exact ⟨blk_new _ _, h.le⟩
    · exact h1.2.1 p hp
  · intro i j p q hi hj he
    match i, j, hi, hj with
    | 0, 0, _, _ => rfl
    | 0, j + 1, hi, hj =>
      obtain rfl : (W.heap.size, o) = p := by simpa using hi
      have := blk_lt (h.2.1 q (List.mem_of_getElem? (by simpa using hj))).1
      simp only at he; omega
    | i + 1, 0, hi, hj =>
      obtain rfl : (W.heap.size, o) = q := by simpa using hj
      have := blk_lt (h.2.1 p (List.mem_of_getElem? (by simpa using hi))).1
      simp only at he; omega
    | i + 1, j + 1, hi, hj => rw [h.2.2.1 i j p q (by simpa using hi) (by simpa using hj) he]
  · refine h.2.2.2.2 φ hφ W' ⟨(below_zero (below_alloc (Below.refl W.heap.size W) o)).trans ho.1, fun k hk hn => (ho.2 k (by simp; omega) (fun p hp => ?_)).trans (Below.heap_alloc W o k hk)⟩
    rcases List.mem_cons.1 hp with rfl | hp
    · simp only; omega
    · exact hn p hp
theorem Hp.change {i g : Nat} {o o' : Obj} (h : Hp B w0 W L F) (hi : L[i]? = some (g, o)) (hb : Below 0 W W1) (hz : W1.heap.size = W.heap.size) (hg : W1.heap[g]? = some o') (hk : ∀ k, k ≠ g → W1.heap[k]? = W.heap[k]?) : Hp B w0 W1 (L.set i (g, o')) F := by
  have hge := h.ge hi
  have hmem : ∀ p ∈ L.set i (g, o'), p = (g, o') ∨ (p ∈ L ∧ p.1 ≠ g) := by
    intro p hp
    obtain ⟨j, hj⟩ := List.getElem?_of_mem hp
    by_cases e : i = j
    · subst e
      have hlt : i < L.length := (List.getElem?_eq_some_iff.1 hi).1
      rw [List.getElem?_set_self hlt] at hj
      exact .inl (Option.some.inj hj).symm
    · rw [List.getElem?_set_ne e] at hj
      refine .inr ⟨List.mem_of_getElem? hj, fun hpg => e ?_⟩
      exact h.2.2.1 i j _ _ hi hj hpg.symm
  refine ⟨⟨hb.os.trans h.1.os, hb.tape.trans h.1.tape, hb.output.trans h.1.output, Nat.le_trans h.1.size hb.size, fun k hkB => (hk k (by omega)).trans (h.1.block k hkB)⟩, fun p hp => ?_, ?_, by rw [hz]; exact h.le, fun φ hφ W' ho => ?_⟩
  · rcases hmem p hp with rfl | ⟨hp, hne⟩
    · exact ⟨hg, hge⟩
    · exact ⟨(hk _ hne).trans (h.2.1 p hp).1, (h.2.1 p hp).2⟩
  · intro a b p q ha hb' he
    have key : ∀ (c : Nat) (r : Nat × Obj), (L.set i (g, o'))[c]? = some r → ∃ r', L[c]? = some r' ∧ r'.1 = r.1 := by
      intro c r hc
      by_cases e : i = c
      · subst e
        rw [List.getElem?_set_self (List.getElem?_eq_some_iff.1 hi).1] at hc
        exact ⟨_, hi, by rw [← Option.some.inj hc]⟩
      · rw [List.getElem?_set_ne e] at hc
        exact ⟨r, hc, rfl⟩
    obtain ⟨p', hp1, hp2⟩ := key a p ha
    obtain ⟨q', hq1, hq2⟩ := key b q hb'
    exact h.2.2.1 a b p' q' hp1 hq1 (hp2.trans (he.trans hq2.symm))
  · refine h.2.2.2.2 φ hφ W' ⟨hb.trans ho.1, fun k hkz hn => ?_⟩
    have hkg : k ≠ g := fun e => hn _ (List.mem_of_getElem? hi) e.symm
    refine (ho.2 k (by rw [hz]; exact hkz) (fun p hp => ?_)).trans (hk k hkg)
    rcases hmem p hp with rfl | ⟨hp, _⟩
    · exact fun e => hkg e.symm
    · exact hn p hp
theorem Hp.allocAt (h : Hp B w0 W L F) (o : Obj) (g : Nat) (hz : W.heap.size = g) : Hp B w0 (W.alloc o) ((g, o) :: L) F := by subst hz; exact h.alloc o
theorem Hp.setRow {i g t : Nat} {cur : Array Value} {fr : Nat × Nat} (h : Hp B w0 W L F) (hi : L[i]? = some (g, .cells cur t fr)) (cs : Array Value) : Hp B w0 (W.setRow g cs) (L.set i (g, .cells cs t fr)) F :=
  h.change hi ⟨rfl, rfl, rfl, by simp [World.setRow], fun k hk => by omega⟩ (by simp [World.setRow]) (setRow_heap _ _ _ _ _ _ (h.get hi)) (fun k hk => setRow_other _ _ _ _ hk)
theorem Hp.setCell {i g t : Nat} {cur : Array Value} (h : Hp B w0 W L F) (hi : L[i]? = some (g, .cells cur t (0, 0))) (j : Nat) (u : Value) : Hp B w0 (W.setCell ⟨g, j, none⟩ u) (L.set i (g, .cells (cur.setIfInBounds j u) t (0, 0))) F :=
  h.change hi ⟨rfl, rfl, rfl, by simp [World.setCell], fun k hk => by omega⟩ (by simp [World.setCell]) (blk_set (h.get hi) j u) (fun k hk => Below.heap_setCell _ _ _ _ hk)
theorem Hp.told {φ : World → Prop} (h : Hp B w0 W L F) (hb : Below W.heap.size W W1) (hst : ∀ W', Below 0 W1 W' → (∀ k, W.heap.size ≤ k → k < W1.heap.size → W'.heap[k]? = W1.heap[k]?) → φ W') : Hp B w0 W1 L (φ :: F) := by
  have h1 := h.call hb
  refine ⟨h1.1, h1.2.1, h1.2.2.1, h1.2.2.2.1, fun ψ hψ W' ho => ?_⟩
  rcases List.mem_cons.1 hψ with rfl | hψ
  · refine hst W' ho.1 (fun k hk1 hk2 => ho.2 k hk2 (fun p hp => ?_))
    have := blk_lt (h.2.1 p hp).1
    omega
  · exact h1.2.2.2.2 ψ hψ W' ho
theorem Hp.row {α : Type} {d : Kd α} {e : Nat} {ok : Nat → Prop} {v : Value} {xs : List α} (h : Hp B w0 W L F) (hb : Below W.heap.size W W1) (hr : d.R e W1 W.heap.size ok v xs) : Hp B w0 W1 L ((fun w => d.R e w B (fun _ => True) v xs) :: F) :=
  h.told hb (fun W' h0 hq => Kd.R_mono (Kd.R_lower (Kd.R_step (Kd.R_mono (Kd.R_bound hr) (fun k hk => (⟨hk.2.1, hk.2.2.1⟩ : W.heap.size ≤ k ∧ k < W1.heap.size))) (fun k hk hlt => hq k hk.1 hk.2)) h.le) (fun _ _ => trivial))
theorem Hp.found {g : Nat} {o : Obj} (h : Hp B w0 W L F) (hb : Below W.heap.size W W1) (hg : W.heap.size ≤ g) (ho : W1.heap[g]? = some o) : Hp B w0 W1 ((g, o) :: L) F := by
  have h1 := h.call hb
  refine ⟨h1.1, fun p hp => ?_, ?_, h1.2.2.2.1, fun φ hφ W' hw => ?_⟩
  · rcases List.mem_cons.1 hp with rfl | hp
    · exact ⟨ho, Nat.le_trans h.le hg⟩
    · exact h1.2.1 p hp
  · intro i j p q hi hj he
    match i, j, hi, hj with
    | 0, 0, _, _ => rfl
    | 0, j + 1, hi, hj =>
      obtain rfl : (g, o) = p := by simpa using hi
      have := blk_lt (h.2.1 q (List.mem_of_getElem? (by simpa using hj))).1
      simp only at he; omega
    | i + 1, 0, hi, hj =>
      obtain rfl : (g, o) = q := by simpa using hj
      have := blk_lt (h.2.1 p (List.mem_of_getElem? (by simpa using hi))).1
      simp only at he; omega
    | i + 1, j + 1, hi, hj => rw [h.2.2.1 i j p q (by simpa using hi) (by simpa using hj) he]
  · refine h.2.2.2.2 φ hφ W' ⟨(below_zero hb).trans hw.1, fun k hk hn => (hw.2 k (Nat.lt_of_lt_of_le hk hb.size) (fun p hp => ?_)).trans (hb.block k hk)⟩
    rcases List.mem_cons.1 hp with rfl | hp
    · simp only; omega
    · exact hn p hp
theorem Hp.drop {F' : List (World → Prop)} (h : Hp B w0 W L F) (hs : ∀ φ ∈ F', φ ∈ F) : Hp B w0 W L F' := ⟨h.1, h.2.1, h.2.2.1, h.2.2.2.1, fun φ hφ => h.2.2.2.2 φ (hs φ hφ)⟩
theorem Hp.rest {p : Nat × Obj} (h : Hp B w0 W (p :: L) F) : Hp B w0 W L F :=
  ⟨h.1, fun q hq => h.2.1 q (List.mem_cons_of_mem _ hq), (fun i j p q hi hj he => by have := h.2.2.1 (i + 1) (j + 1) p q (by simpa using hi) (by simpa using hj) he; omega), h.2.2.2.1, fun φ hφ W' ho => h.2.2.2.2 φ hφ W' ⟨ho.1, fun k hk hn => by
    refine ho.2 k hk (fun q hq => hn q (List.mem_cons_of_mem _ hq))⟩⟩
end
section
variable {P : Program}
theorem wpList_load_row_g {ops : Array Oper} {rest : List Oper} {o : Oper} {a : Act} {w : World} {Q : Exit → Act → World → Prop} (ty : TypeId) (x : Operand) (ho : o.op = .load ty x)
    (g : Nat) (hx : a.eval x = .pointer (some ⟨g, 0, none⟩)) (hgd : Region.wanted o (yielded ops a.tmps) = true) (t : TypeId) (cs : Array Value) (fr : Nat × Nat) (d : TypeDesc) (hg : w.heap[g]? = some (.cells cs t fr))
    (hu : P.underlying ty = some d) (hd : (match d with | .struct _ | .array _ _ => true | _ => false) = true) (hi : (P.info? ty).map (·.size) = some cs.size)
    (h : wpList P ops Q rest (a.put o.dst (.agg cs)) w) : wpList P ops Q (o :: rest) a w :=
  wpList_step fun K hK => by rw [if_pos hgd]; exact wp_load_row ty x ho g hx t cs fr d hg hu hd hi (hK _ _ h)
end
end Go.Proofs.Yticpjidcgaaldaa

namespace Go.Proofs.Yticpjidcgaaldaa
open Go.RowKit Go.Proofs.YticpjidcgaaldaaW.PrintWords Go.Proofs.YticpjidcgaaldaaW.PrintLast Go.Proofs.YticpjidcgaaldaaW.PrintMore
set_option linter.unusedVariables false
set_option linter.unusedSimpArgs false

def OkC (x : S59) : Prop := (Lit.int .i32 x.f0).wf = true ∧ (Lit.int .u32 x.f1).wf = true
def I64 (n : Int) : Prop := -9223372036854775808 ≤ n ∧ n ≤ 9223372036854775807
def U32 (n : Int) : Prop := 0 ≤ n ∧ n < 4294967296
def putF (f : Nat → S59) (j : Nat) (c : S59) : Nat → S59 := fun i => if i = j then c else f i
end Go.Proofs.Yticpjidcgaaldaa

namespace Go.Proofs.Yticpjidcgaaldaa
open Go.RowKit Go.Proofs.YticpjidcgaaldaaW.PrintWords Go.Proofs.YticpjidcgaaldaaW.PrintLast Go.Proofs.YticpjidcgaaldaaW.PrintMore
set_option linter.unusedVariables false
set_option linter.unusedSimpArgs false

theorem np_info : (Try.prog.info? 5).map (fun i => (i.zero, i.size, i.bytes)) = some (some (.int .u8 0), 1, 1) := by kernel_rfl
def Pn (w : World) (base g : Nat) (p : List Int) (v : Value) : Prop := w.heap[g]? = some (.cells #[v] 91 (0, 0)) ∧ (Kd.int .u8).R 5 w base (fun b => b ≠ g) v p
def PPut (w w' : World) (base g : Nat) (v : Value) (p' : List Int) (v' : Value) : Prop :=
  Pn w' base g p' v' ∧ KeepBut w w' g v.ownBlock ∧ (v'.ownBlock = none ∨ v'.ownBlock = v.ownBlock ∨ ∃ b, v'.ownBlock = some b ∧ w.heap.size ≤ b) ∧ Below base w w'
theorem blkn_grown {w w1 : World} {g : Nat} {row : Option Nat} {cs : Array Value} {t : TypeId} {fr : Nat × Nat} (hg : w.grownBy w1 row) (h : w.heap[g]? = some (.cells cs t fr)) (hr : some g ≠ row) : w1.heap[g]? = some (.cells cs t fr) := by
  rw [hg.block g (blk_lt h) hr]; exact h
theorem Rn_C {α : Type} {d : Kd α} {e base n c : Nat} {w : World} {ok : Nat → Prop} {Q : Option Addr} {xs : List α} (h : d.R e w base ok (.slice Q n c) xs) : xs.length = n ∧ n ≤ c ∧ d.C w Q n xs := by
  obtain ⟨A, c', he, hl, hC⟩ := Kd.R_reads h
  injection he with h1 h2 h3
  subst h1 h2 h3
  exact ⟨rfl, hl, hC⟩
theorem Pn.lt {w : World} {base g : Nat} {p : List Int} {v : Value} (h : Pn w base g p v) : g < w.heap.size := blk_lt h.1
theorem Pn.own {w : World} {base g : Nat} {p : List Int} {v : Value} (h : Pn w base g p v) : ∀ b, v.ownBlock = some b → b < w.heap.size := Kd.R_lt h.2
theorem Pn.ne {w : World} {base g : Nat} {p : List Int} {v : Value} (h : Pn w base g p v) : v.ownBlock ≠ some g := fun e => h.2.1 _ e rfl
theorem Pn.below {w w' : World} {base g : Nat} {p : List Int} {v : Value} (h : Pn w base g p v) (hb : Below w.heap.size w w') : Pn w' base g p v := ⟨blk_below h.1 hb, Kd.R_below h.2 hb⟩
theorem PPut.of_below {w w' : World} {base g : Nat} {p : List Int} {v : Value} (h : Pn w base g p v) (hbg : base ≤ g) (hb : Below w.heap.size w w') : PPut w w' base g v p v :=
  ⟨h.below hb, KeepBut.of_below hb g _, .inr (.inl rfl), hb.mono (Nat.le_trans hbg (Nat.le_of_lt h.lt))⟩
theorem PPut.trans {w w1 w2 : World} {base g : Nat} {v v1 v2 : Value} {p1 p2 : List Int} (h : PPut w w1 base g v p1 v1) (h' : PPut w1 w2 base g v1 p2 v2) : PPut w w2 base g v p2 v2 := by
  refine ⟨h'.1, ?_, ?_, h.2.2.2.trans h'.2.2.2⟩
  · refine ⟨Nat.le_trans h.2.1.1 h'.2.1.1, fun i hi hg hr => ?_⟩
    rw [h'.2.1.2 i (Nat.lt_of_lt_of_le hi h.2.1.1) hg (fun e => ?_), h.2.1.2 i hi hg hr]
    rcases h.2.2.1 with e1 | e1 | ⟨b, e1, hb⟩
    · rw [e1] at e; cases e
    · rw [e1] at e; exact hr e
    · rw [e1] at e; injection e with e; omega
  · rcases h'.2.2.1 with e | e | ⟨b, e, hb⟩
    · exact .inl e
    · rcases h.2.2.1 with e1 | e1 | ⟨b, e1, hb⟩
      · exact .inl (e.trans e1)
      · exact .inr (.inl (e.trans e1))
      · exact .inr (.inr ⟨b, e.trans e1, hb⟩)
    · exact .inr (.inr ⟨b, e, Nat.le_trans h.2.1.1 hb⟩)
theorem PPut.after {w w1 w2 : World} {base g : Nat} {v v' : Value} {p p' : List Int} (hb : base ≤ g) (hk : Pn w base g p v) (h : Below w.heap.size w w1) (h' : PPut w1 w2 base g v p' v') : PPut w w2 base g v p' v' := (PPut.of_below hk hb h).trans h'
set_option maxRecDepth 100000 in
set_option maxHeartbeats 2000000 in
theorem add_any (base g : Nat) (p q : List Int) (v : Value) (A : Option Addr) (n c : Nat) (w : World) (hk : Pn w base g p v) (hb : base ≤ g) (hq : (Kd.int .u8).C w A n q) (hl : p.length + n ≤ 100000000) :
    Calls Try.prog 70 #[.pointer (some ⟨g, 0, none⟩), .slice A n c] w fun e w' => ∃ v', e = .returned (.pointer (some ⟨g, 0, none⟩)) ∧ PPut w w' base g v (p ++ q) v' := by
  have c0 := blk_cell hk.1 0
  have HK := Aside0.mk hk
  have HQ := Aside0.mk hq
  have HB := Aside0.mk hb
  have HL : Aside0 ((p.length + n) * 1 ≤ 140737488355328) := ⟨by omega⟩
  obtain ⟨Q, d, hv⟩ := Kd.R_slice hk.2
  obtain ⟨m, hm⟩ : ∃ m, p.length = m := ⟨_, rfl⟩
  rw [hm] at hv
  subst hv
  clear hk hq hb hl hm
  go_enter Try.func70, Try.ntmps70
  go_wp2_with (at_builtin; go_loud (refine R_app .u8 (w0 := w) base rfl (.tmp 11) (.tmp 12) 23 5 1 rfl Try.underlying23 np_info (by decide) (.slice Q m d) p q A n c (fun b => b ≠ g) rfl rfl HK.out.2 HQ.out (fun k hk e => by have := HK.out.lt; omega) (Below.refl _ _) (Nat.le_trans HB.out (Nat.le_of_lt HK.out.lt)) HL.out ?_))
  intro v1 w1 ho hb1 hg hat
  obtain ⟨Q1, d1, hv1⟩ := Kd.R_slice ho
  obtain ⟨ll, hll⟩ : ∃ ll, (p ++ q).length = ll := ⟨_, rfl⟩
  rw [hll] at hv1
  clear hll
  subst hv1
  have hw1 := blkn_grown hg HK.out.1 (fun e => HK.out.ne e.symm)
  have y0 := blk_frozen hw1 0
  have z0 := blk_cell hw1 0
  have HO1 := Aside0.mk ho
  have HG1 := Aside0.mk hg
  have HA1 := Aside0.mk hat
  have HB1 := Aside0.mk hb1
  have HW1 := Aside0.mk hw1
  clear ho hb1 hg hat hw1
  go_wp2_with fail
  go_ret
  exact ⟨_, rfl, ⟨blk_set HW1.out 0 _, Kd.R_far HO1.out (fun k hk => hk) _⟩, (KeepBut.of_grown HG1.out g).set_ 0 _, .inr HA1.out, HB1.out.setCell HB.out _⟩
end Go.Proofs.Yticpjidcgaaldaa

namespace Go.Proofs.Yticpjidcgaaldaa
open Go.RowKit Go.Proofs.YticpjidcgaaldaaW.PrintWords Go.Proofs.YticpjidcgaaldaaW.PrintLast Go.Proofs.YticpjidcgaaldaaW.PrintMore
set_option linter.unusedVariables false
set_option linter.unusedSimpArgs false

theorem w64 {n : Int} (h : -9223372036854775808 ≤ n ∧ n ≤ 9223372036854775807) : wrap64 n = n := by unfold wrap64; omega
theorem next64 {i : Nat} (h : i < 9223372036854775807) : wrap64 ((i : Int) + 1) = ((i + 1 : Nat) : Int) := by unfold wrap64; omega
theorem takes {α : Type} {l : List α} {i j : Nat} (h : min i l.length = min j l.length) : l.take i = l.take j := List.take_eq_take_iff.2 h

theorem rdL_getElem {xs : List (List Int)} {j : Nat} (h : j < xs.length) : rd_L5 xs (j : Int) = xs[j] := by
  unfold rd_L5; rw [List.getD_eq_getElem?_getD, Int.toNat_natCast, List.getElem?_eq_getElem h]; rfl
theorem flatten_take_le : ∀ (l : List (List Int)) (i : Nat), (l.take i).flatten.length ≤ l.flatten.length
  | [], i => by simp
  | x :: l, 0 => by simp
  | x :: l, i + 1 => by have := flatten_take_le l i; simp; simp at this; omega
theorem join_l0 (l : List (List Int)) (hl : l.flatten.length < 140737488355328) (hn : l.length ≤ 9223372036854775807) : ∀ (d k i : Nat), i + d = l.length → d < k →
    hoodwinkref01_Join.l0 k (l.take i).flatten l (l.length : Int) (i : Int) = some l.flatten
  | 0, k, i, hi, hk => by
    obtain ⟨k, rfl⟩ : ∃ q, k = q + 1 := ⟨k - 1, by omega⟩
    simp only [hoodwinkref01_Join.l0]
    rw [if_neg (by omega), List.take_of_length_le (by omega)]
  | d + 1, k, i, hi, hk => by
    obtain ⟨k, rfl⟩ : ∃ q, k = q + 1 := ⟨k - 1, by omega⟩
    have hil : i < l.length := by omega
    have ih := join_l0 l hl hn d k (i + 1) (by omega) (by omega)
    have he : (l.take (i + 1)).flatten = (l.take i).flatten ++ l[i] := by rw [take_snoc hil, List.flatten_append]; simp
    have hle := flatten_take_le l (i + 1)
    rw [he, List.length_append] at hle
    simp only [hoodwinkref01_Join.l0]
    rw [if_pos (by omega), if_pos (by omega), if_pos (by omega), rdL_getElem hil, if_pos (by omega), next64 (by omega), ← he, ih]
theorem join_f (l : List (List Int)) (hl : l.flatten.length < 140737488355328) (hn : l.length ≤ 9223372036854775807) : hoodwinkref01_Join.f (l.length + 1) l = some l.flatten := by
  have := join_l0 l hl hn l.length (l.length + 1) 0 (by omega) (by omega)
  simpa [hoodwinkref01_Join.f] using this
theorem join_any (A : Option Addr) (n c : Nat) (l : List (List Int)) (w : World) (hr : (Kd.slice 5 (Kd.int .u8)).C w A n l) (hc : n ≤ c) (hl : l.flatten.length < 140737488355328) :
    Calls Try.prog 21 #[.slice A n c] w fun e w' => ∃ v, e = .returned v ∧ (Kd.int .u8).R 5 w' w.heap.size (fun _ => True) v l.flatten ∧ Below w.heap.size w w' := by
  have hm := hr.2.1
  obtain rfl := hr.1
  exact hoodwinkref01_Join.calls (l.length + 1) A c l _ w hr hc (join_f l hl hm)

end Go.Proofs.Yticpjidcgaaldaa

namespace Go.Proofs.Yticpjidcgaaldaa
open Go.RowKit Go.Proofs.YticpjidcgaaldaaW.PrintWords Go.Proofs.YticpjidcgaaldaaW.PrintLast Go.Proofs.YticpjidcgaaldaaW.PrintMore
set_option linter.unusedVariables false
set_option linter.unusedSimpArgs false

theorem wu64 {n : Int} (h : 0 ≤ n ∧ n ≤ 18446744073709551615) : IntKind.u64.wrap n = n := IntWalk.u64_in n h
def lowN : Nat → Nat → List Int
  | _, 0 => []
  | x, s + 1 => ((x % 256 : Nat) : Int) :: lowN (x / 256) s
theorem lowN_length : ∀ (s x : Nat), (lowN x s).length = s
  | 0, _ => rfl
  | s + 1, x => by show (lowN (x / 256) s).length + 1 = s + 1; rw [lowN_length s]
theorem lowN_bytes : ∀ (s x : Nat), Bytes (lowN x s)
  | 0, _ => Bytes.nil
  | s + 1, x => fun b hb => by
    rcases List.mem_cons.1 hb with rfl | h
    · omega
    · exact lowN_bytes s (x / 256) b h
theorem low_l0 (s : Nat) (hs : s ≤ 1000) : ∀ (d k i x : Nat) (acc : List Int), i + d = s → d < k → x ≤ 18446744073709551615 → acc.length = i →
    hoodwinkref01_Low.l0 k (x : Int) (s : Int) acc (i : Int) = some (acc ++ lowN x d)
  | 0, k, i, x, acc, hi, hk, hx, ha => by
    obtain ⟨k, rfl⟩ : ∃ q, k = q + 1 := ⟨k - 1, by omega⟩
    simp only [hoodwinkref01_Low.l0]
    rw [if_neg (by omega)]; simp [lowN]
  | d + 1, k, i, x, acc, hi, hk, hx, ha => by
    obtain ⟨k, rfl⟩ : ∃ q, k = q + 1 := ⟨k - 1, by omega⟩
    have h1 : Int.tdiv (x : Int) 256 = ((x / 256 : Nat) : Int) := by rw [Int.tdiv_eq_ediv_of_nonneg (by omega)]; rfl
    have h2 : Int.tmod (x : Int) 256 = ((x % 256 : Nat) : Int) := by rw [Int.tmod_eq_emod_of_nonneg (by omega)]; rfl
    have h3 : ((x % 256 : Nat) : Int) % 256 = ((x % 256 : Nat) : Int) := by omega
    have ih := low_l0 s hs d k (i + 1) (x / 256) (acc ++ [((x % 256 : Nat) : Int)]) (by omega) (by omega) (by omega) (by simp [ha])
    simp only [hoodwinkref01_Low.l0]
    rw [if_pos (by omega), if_pos (by omega), h1, h2, h3, wu64 (by omega), next64 (by omega), ih]
    simp [lowN]
theorem low_any (x s : Nat) (w : World) (hx : x ≤ 18446744073709551615) (hs : s ≤ 1000) :
    Calls Try.prog 48 #[.int .u64 x, .int .i64 s] w fun e w' => ∃ v, e = .returned v ∧ (Kd.int .u8).R 5 w' w.heap.size (fun _ => True) v (lowN x s) ∧ Below w.heap.size w w' :=
  hoodwinkref01_Low.calls (s + 1) x s _ w (by
    have := low_l0 s hs s (s + 1) 0 x [] (by omega) (by omega) hx rfl
    simpa [hoodwinkref01_Low.f] using this)

end Go.Proofs.Yticpjidcgaaldaa

namespace Go.Proofs.Yticpjidcgaaldaa
open Go.RowKit Go.Proofs.YticpjidcgaaldaaW.PrintWords Go.Proofs.YticpjidcgaaldaaW.PrintLast Go.Proofs.YticpjidcgaaldaaW.PrintMore
set_option linter.unusedVariables false
set_option linter.unusedSimpArgs false

theorem row8_C {w : World} {g : Nat} {q : List Int} {cs : Array Value} (h : w.heap[g]? = some (.cells cs 5 (0, 0))) (hcs : cs.toList = q.map (Value.int .u8)) (hm : q.length ≤ 1000) : (Kd.int .u8).C w (some ⟨g, 0, none⟩) q.length q :=
  C_of_block h ⟨hcs, rfl, by omega⟩

theorem and255 (x : Nat) (hx : x < 65536) : bits .and .u16 (x : Int) 255 % 256 = ((x % 256 : Nat) : Int) := by
  rw [show (255 : Int) = ((255 : Nat) : Int) from rfl, u16_and_nat x 255 hx (by omega), show (255 : Nat) = 2 ^ 8 - 1 from rfl, Nat.and_two_pow_sub_one_eq_mod]
  omega
theorem lowN_four (x : Nat) (hx : x < 4294967296) : lowN (x % 65536) 2 ++ lowN (x / 65536) 2 = lowN x 4 := by
  simp only [lowN, List.cons_append, List.nil_append]
  congr 1
  · omega
  · congr 1
    · omega
    · congr 1
      · omega
      · congr 1
        omega

set_option maxHeartbeats 1000000 in
theorem phalf_any (base g : Nat) (p : List Int) (v : Value) (x : Nat) (hx : x < 65536) (w : World) (hk : Pn w base g p v) (hb : base ≤ g) (hl : p.length ≤ 10000000) :
    Calls Try.prog 59 #[.pointer (some ⟨g, 0, none⟩), .int .u16 x] w fun e w' => ∃ v', e = .returned (.pointer (some ⟨g, 0, none⟩)) ∧ PPut w w' base g v (p ++ lowN x 2) v' := by
  have hal := below_alloc (Below.refl w.heap.size w) (.cells #[.int .u8 ((x % 256 : Nat) : Int), .int .u8 ((x / 256 % 256 : Nat) : Int)] 5)
  have HK := Aside0.mk hk
  have HB := Aside0.mk hb
  have HAL := Aside0.mk hal
  have key := add_any base g p (lowN x 2) v (some ⟨w.heap.size, 0, none⟩) 2 2 _ (hk.below hal) hb (row8_C (q := lowN x 2) (blk_new w _) rfl (by simp [lowN])) (by omega)
  have KEY := Aside0.mk key
  have E1 : Aside0 (bits .and .u16 (x : Int) 255 % 256 = ((x % 256 : Nat) : Int)) := ⟨and255 x hx⟩
  have E2 : Aside0 ((x : Int) / 256 = ((x / 256 % 256 : Nat) : Int)) := ⟨by omega⟩
  clear hk hb hal key hl
  go_enter Try.func59, Try.ntmps59
  go_wp2_with fail
  rw [E1.out, E2.out]
  refine KEY.out.mono ?_
  rintro e w1 ⟨v', rfl, h⟩
  have H := Aside0.mk (PPut.after HB.out HK.out HAL.out h)
  clear h
  go_wp2_with fail
  go_ret
  exact ⟨_, rfl, H.out⟩

set_option maxHeartbeats 1000000 in
theorem pword_any (base g : Nat) (p : List Int) (v : Value) (x : Nat) (hx : x < 4294967296) (w : World) (hk : Pn w base g p v) (hb : base ≤ g) (hl : p.length ≤ 1000000) :
    Calls Try.prog 39 #[.pointer (some ⟨g, 0, none⟩), .int .u32 x] w fun e w' => ∃ v', e = .returned (.pointer (some ⟨g, 0, none⟩)) ∧ PPut w w' base g v (p ++ lowN x 4) v' := by
  have HK := Aside0.mk hk
  have HB := Aside0.mk hb
  have KEY := Aside0.mk (phalf_any base g p v (x % 65536) (by omega) w hk hb (by omega))
  have KEY2 := Aside0.mk (fun v1 w1 (h : Pn w1 base g (p ++ lowN (x % 65536) 2) v1) => phalf_any base g (p ++ lowN (x % 65536) 2) v1 (x / 65536) (by omega) w1 h hb (by rw [List.length_append, lowN_length]; omega))
  have E1 : Aside0 (IntKind.u16.wrap (x : Int) = ((x % 65536 : Nat) : Int)) := ⟨by rw [IntKind.wrap_u16]; omega⟩
  have E2 : Aside0 ((x : Int) / 65536 = ((x / 65536 : Nat) : Int)) := ⟨by omega⟩
  have E3 := Aside0.mk (lowN_four x hx)
  clear hk hb hl
  go_enter Try.func39, Try.ntmps39
  go_wp2_with fail
  rw [E1.out]
  refine KEY.out.mono ?_
  rintro e w1 ⟨v1, rfl, h⟩
  have KEY3 := Aside0.mk (KEY2.out v1 w1 h.1)
  have H := Aside0.mk h
  clear h
  go_wp2_with fail
  rw [E2.out]
  refine KEY3.out.mono ?_
  rintro e w2 ⟨v2, rfl, h⟩
  rw [List.append_assoc, E3.out] at h
  have H2 := Aside0.mk (H.out.trans h)
  clear h
  go_wp2_with fail
  go_ret
  exact ⟨_, rfl, H2.out⟩
end Go.Proofs.Yticpjidcgaaldaa

namespace Go.Proofs.Yticpjidcgaaldaa
open Go.RowKit Go.Proofs.YticpjidcgaaldaaW.PrintWords Go.Proofs.YticpjidcgaaldaaW.PrintLast Go.Proofs.YticpjidcgaaldaaW.PrintMore
set_option linter.unusedVariables false
set_option linter.unusedSimpArgs false

theorem wx_info5 : (Try.prog.info? 5).map (fun i => (i.zero, i.size, i.bytes)) = some (some (.int .u8 0), 1, 1) := by kernel_rfl

set_option maxHeartbeats 800000 in
theorem clone_any (A : Option Addr) (n c : Nat) (l : List Int) (w : World) (hr : (Kd.int .u8).C w A n l) (hl : n ≤ 140737488351232) :
    Calls Try.prog 71 #[.slice A n c] w fun e w' => ∃ v, e = .returned v ∧ (Kd.int .u8).R 5 w' w.heap.size (fun _ => True) v l ∧ Below w.heap.size w w' := by
  obtain rfl := hr.1
  have HR := Aside0.mk hr
  clear hr
  have q22 : ∀ (w : World) (a : Option Addr) (n c n' c' : Nat), (binOp .eql 23 (.slice a n c) (.slice none n' c')).run Try.prog w = .ok (.bool a.isNone) w := fun w a n c n' c' => Lib.run_eql_slice_nil w _ _ a n c n' c' Try.underlying23
  cases A with
  | none =>
    have h0 : l = [] := C_none HR.out
    subst h0
    go_enter Try.func71, Try.ntmps71
    go_wp2
    go_ret
    exact ⟨_, rfl, Kd.R_nil _ _ _ _ _, Below.refl _ _⟩
  | some ad =>
    go_enter Try.func71, Try.ntmps71
    go_wp2_with (at_builtin; go_loud (refine Kd.R_append_row (Value.int .u8) (0 : Int) (h1 := fun _ => rfl) (w0 := w) w.heap.size rfl (.tmp 5) (.tmp 6) 23 5 (.int .u8 0) 1 rfl Try.underlying23 wx_info5 rfl (by decide) (.slice (some ⟨w.heap.size, 0, none⟩) 0 0) [] l (some ad) l.length c (fun _ => True) rfl rfl (fun _ _ => trivial) ?aO ?aR ?aB ?aS ?aL ?_))
    case aO => exact R_made0 _ _ _ _ (Nat.le_refl _)
    case aR => exact Kd.C_alloc HR.out _
    case aB => exact below_alloc (Below.refl _ _) _
    case aS => simp
    case aL => simp; omega
    intro v1 w1 ho hb _ _
    have HO := Aside0.mk ho
    have HB := Aside0.mk hb
    clear ho hb
    go_wp2
    go_ret
    exact ⟨_, rfl, HO.out, HB.out⟩

def bitN (s : Nat) : Nat := s / 2 ^^^ s % 2 * 2197175160
def bits8 : Nat → Nat → Nat
  | 0, s => s
  | k + 1, s => bitN (bits8 k s)
def stepN (s b : Nat) : Nat := bits8 8 (s ^^^ b)
structure IsTab (tb : Nat → Nat) (T : Array Value) : Prop where
  size : T.size = 256
  lt : ∀ i, tb i < 4294967296
  at_ : ∀ i, i < 256 → T[i]? = some (.int .u32 (tb i : Nat))
end Go.Proofs.Yticpjidcgaaldaa

namespace Go.Proofs.Yticpjidcgaaldaa
open Go.RowKit Go.Proofs.YticpjidcgaaldaaW.PrintWords Go.Proofs.YticpjidcgaaldaaW.PrintLast Go.Proofs.YticpjidcgaaldaaW.PrintMore
set_option linter.unusedVariables false
set_option linter.unusedSimpArgs false

set_option maxHeartbeats 1000000 in
theorem pbytes_any (base g : Nat) (p : List Int) (v : Value) (w : World) (hk : Pn w base g p v) (hl : p.length ≤ 1000000) :
    Calls Try.prog 40 #[.pointer (some ⟨g, 0, none⟩)] w fun e w' => ∃ vo, e = .returned vo ∧ (Kd.int .u8).R 5 w' w.heap.size (fun _ => True) vo p ∧ Below w.heap.size w w' := by
  have c0 := blk_cell hk.1 0
  obtain ⟨Q, d, hv⟩ := Kd.R_slice hk.2
  subst hv
  obtain ⟨r1, r2, r3⟩ := Rn_C hk.2
  have KEY := Aside0.mk (clone_any Q p.length d p w r3 (by omega))
  generalize p.length = m at *
  clear hk r1 r2 r3 hl
  go_enter Try.func40, Try.ntmps40
  go_wp2_with fail
  refine KEY.out.mono ?_
  rintro e w1 ⟨vo, rfl, h1, h2⟩
  have H1 := Aside0.mk h1
  have H2 := Aside0.mk h2
  clear h1 h2
  go_wp2_with fail
  go_ret
  exact ⟨_, rfl, H1.out, H2.out⟩
end Go.Proofs.Yticpjidcgaaldaa

namespace Go.Proofs.Yticpjidcgaaldaa
open Go.RowKit Go.Proofs.YticpjidcgaaldaaW.PrintWords Go.Proofs.YticpjidcgaaldaaW.PrintLast Go.Proofs.YticpjidcgaaldaaW.PrintMore
set_option linter.unusedVariables false
set_option linter.unusedSimpArgs false

end Go.Proofs.Yticpjidcgaaldaa

namespace Go.Proofs.Yticpjidcgaaldaa
open Go.RowKit Go.Proofs.YticpjidcgaaldaaW.PrintWords Go.Proofs.YticpjidcgaaldaaW.PrintLast Go.Proofs.YticpjidcgaaldaaW.PrintMore
set_option linter.unusedVariables false
set_option linter.unusedSimpArgs false

def cellB (b : Bool) (x : S59) : List Int := (if b = true then lowN (x.f0 % 4294967296).toNat 4 else []) ++ lowN x.f1.toNat 4
theorem cellB_len (b : Bool) (x : S59) : (cellB b x).length ≤ 8 := by unfold cellB; cases b <;> simp [lowN_length]
theorem cellB_bytes (b : Bool) (x : S59) : Bytes (cellB b x) := by
  unfold cellB
  refine Bytes.append ?_ (lowN_bytes _ _)
  cases b
  · exact Bytes.nil
  · exact lowN_bytes _ _
end Go.Proofs.Yticpjidcgaaldaa

namespace Go.Proofs.Yticpjidcgaaldaa
open Go.RowKit Go.Proofs.YticpjidcgaaldaaW.PrintWords Go.Proofs.YticpjidcgaaldaaW.PrintLast Go.Proofs.YticpjidcgaaldaaW.PrintMore
set_option linter.unusedVariables false

end Go.Proofs.Yticpjidcgaaldaa

namespace Go.Proofs.Yticpjidcgaaldaa
open Go.RowKit Go.Proofs.YticpjidcgaaldaaW.PrintWords Go.Proofs.YticpjidcgaaldaaW.PrintLast Go.Proofs.YticpjidcgaaldaaW.PrintMore
set_option linter.unusedVariables false

def risB : Int → List Int → Bool
  | _, [] => true
  | a, x :: l => decide (a < x) && decide (x < 48) && risB x l
theorem risB_cons (a x : Int) (l : List Int) : risB a (x :: l) = (decide (a < x) && decide (x < 48) && risB x l) := rfl
def rightB (P : List Int) (m : Nat) : Bool := risB (-1) P && P.length == m
def prevP (P : List Int) (i : Nat) : Int := if i = 0 then -1 else P.getD (i - 1) 0
theorem right_l0 (P : List Int) (C : List S59) (a b : Int) (hP : Bytes P) (hl : P.length < 4611686018427387904) : ∀ (d k i : Nat), i + d = P.length → d < k →
    delta_Delta_right.l0 k P (P.length : Int) (i : Int) a b P C = some (risB (prevP P i) (P.drop i) && (P.length == C.length))
  | 0, k + 1, i, h, _ => by
    unfold delta_Delta_right.l0
    rw [if_neg (by omega), List.drop_of_length_le (by omega)]
    unfold risB
    rw [Bool.true_and]
    congr 1
    rw [Bool.eq_iff_iff]
    simp
    omega
  | d + 1, k + 1, i, h, hk => by
    have hi : i < P.length := by omega
    have hx := hP _ (List.getElem_mem hi)
    unfold delta_Delta_right.l0
    rw [if_pos (by omega), if_pos (by omega), if_pos (by omega), rd_getElem hi, w64 (n := P[i]) (by omega), List.drop_eq_getElem_cons hi]
    by_cases h48 : P[i] ≥ 48
    · rw [if_pos h48]
      rw [risB_cons, decide_eq_false (p := P[i] < 48) (by omega)]
      simp
    · rw [if_neg h48]
      have hd48 : decide (P[i] < 48) = true := decide_eq_true (by omega)
      have ih := right_l0 P C a b hP hl d k (i + 1) (by omega) (by omega)
      have hn : wrap64 ((i : Int) + 1) = ((i + 1 : Nat) : Int) := next64 (by omega)
      have hpi : prevP P (i + 1) = P[i] := by
        unfold prevP
        rw [if_neg (by omega), Nat.add_sub_cancel, List.getD_eq_getElem?_getD, List.getElem?_eq_getElem hi]; rfl
      rw [hpi] at ih
      by_cases h0 : i = 0
      · subst h0
        rw [if_neg (by simp), hn, ih]
        rw [risB_cons]
        have e0 : prevP P 0 = -1 := rfl
        rw [e0, decide_eq_true (p := (-1 : Int) < P[0]) (by omega), hd48]
        simp
      · have e1 : wrap64 ((i : Int) - 1) = ((i - 1 : Nat) : Int) := by unfold wrap64; omega
        have hi1 : i - 1 < P.length := by omega
        have e2 : prevP P i = P[i - 1] := by
          unfold prevP
          rw [if_neg h0, List.getD_eq_getElem?_getD, List.getElem?_eq_getElem hi1]; rfl
        rw [if_pos (by omega), e1, if_pos (by omega), if_pos (by omega), rd_getElem hi1, e2]
        by_cases hle : P[i] ≤ P[i - 1]
        · rw [if_pos hle]
          rw [risB_cons, decide_eq_false (p := P[i - 1] < P[i]) (by omega)]
          simp
        · rw [if_neg hle, hn, ih]
          rw [risB_cons, decide_eq_true (p := P[i - 1] < P[i]) (by omega), hd48]
          simp
theorem right_any (tk hs : Int) (A A2 : Option Addr) (c c2 : Nat) (P : List Int) (C : List S59) (w : World) (hp : (Kd.int .u8).C w A P.length P) (hc : P.length ≤ c) (hC : k59.C w A2 C.length C) (hc2 : C.length ≤ c2) (hP : Bytes P) (hl : P.length < 4611686018427387904) :
    Calls Try.prog 72 #[.agg #[.int .u32 tk, .int .u32 hs, .slice A P.length c, .slice A2 C.length c2]] w fun e w' => e = .returned (.bool (rightB P C.length)) ∧ Below w.heap.size w w' :=
  delta_Delta_right.calls (P.length + 1) tk hs A c P A2 c2 C (rightB P C.length) w hp hc hC hc2 (by
    have := right_l0 P C tk hs hP hl P.length (P.length + 1) 0 (by omega) (by omega)
    unfold delta_Delta_right.f
    rw [show ((0 : Nat) : Int) = 0 by rfl] at this
    rw [this, List.drop_zero]; rfl)

def dCell (x : Int × S59) : List Int := x.1 :: cellB true x.2
def dRows (P : List Int) (C : List S59) : List Int := ((P.zip C).map dCell).flatten
def dHead (tk hs n : Nat) : List Int := lowN tk 4 ++ lowN hs 4 ++ [((n % 256 : Nat) : Int)]
def dBytes (tk hs : Nat) (P : List Int) (C : List S59) : List Int := dHead tk hs P.length ++ dRows P C
theorem risB_le : ∀ {P : List Int} {a : Int}, -1 ≤ a → a < 48 → risB a P = true → (P.length : Int) ≤ 47 - a ∧ Bytes P ∧ ∀ x ∈ P, x < 48
  | [], a, _, _, h => ⟨by simp; omega, Bytes.nil, fun x hx => by cases hx⟩
  | x :: l, a, h0, h1, h => by
    unfold risB at h
    simp only [Bool.and_eq_true, decide_eq_true_eq] at h
    obtain ⟨⟨h2, h3⟩, h4⟩ := h
    obtain ⟨k1, k2, k3⟩ := risB_le (P := l) (a := x) (by omega) h3 h4
    refine ⟨by simp only [List.length_cons]; omega, fun y hy => ?_, fun y hy => ?_⟩
    · rcases List.mem_cons.1 hy with rfl | hy
      · omega
      · exact k2 y hy
    · rcases List.mem_cons.1 hy with rfl | hy
      · exact h3
      · exact k3 y hy
theorem dRows_succ {P : List Int} {C : List S59} {i : Nat} (hp : i < P.length) (hc : i < C.length) : dRows (P.take (i + 1)) (C.take (i + 1)) = dRows (P.take i) (C.take i) ++ (P[i] :: cellB true C[i]) := by
  unfold dRows
  rw [take_snoc hp, take_snoc hc, List.zip_append (by simp; omega), List.map_append, List.flatten_append]
  simp [dCell]
theorem dRows_len (P : List Int) (C : List S59) : (dRows P C).length ≤ 9 * P.length := by
  unfold dRows
  induction P generalizing C with
  | nil => simp
  | cons x l ih =>
    cases C with
    | nil => simp
    | cons y m =>
      have := ih m
      have h2 := cellB_len true y
      simp only [List.zip_cons_cons, List.map_cons, List.flatten_cons, List.length_append, List.length_cons, dCell] at this ⊢
      omega
end Go.Proofs.Yticpjidcgaaldaa

namespace Go.Proofs.Yticpjidcgaaldaa
open Go.RowKit Go.Proofs.YticpjidcgaaldaaW.PrintWords Go.Proofs.YticpjidcgaaldaaW.PrintLast Go.Proofs.YticpjidcgaaldaaW.PrintMore

def depOn (o : Oper) (j : Nat) : Bool := o.after.any fun e => Region.binds .any e && e.on == j
def dstOf (ops : Array Oper) (i : Nat) : Option Tmp := (ops[i]?).bind (·.dst)
def look (ops : Array Oper) (a0 : Act) (L : Nat → Bool) (vs : Nat → Value) (s : Nat) : Value :=
  match (List.range ops.size).find? (fun i => L i && dstOf ops i == some s) with
  | some i => vs i
  | none => a0.tmps.getD s undef
def rho (ops : Array Oper) (a0 : Act) (L : Nat → Bool) (vs : Nat → Value) : Operand → Value
  | .tmp s => look ops a0 L vs s
  | .const v => v
  | .global g => .pointer (some ⟨g, 0, none⟩)
  | .func f => .func (.func f) #[] #[]
def boolOf : Value → Option Bool
  | .bool b => some b
  | _ => none
def regionOk (ops : Array Oper) (size : Nat) : Bool :=
  (List.range ops.size).all fun i => match ops[i]? with
    | none => false
    | some o =>
      (match o.dst with | none => true | some d => decide (d < size) && (List.range ops.size).all fun k => k == i || dstOf ops k != some d) &&
      (o.op.operands.all fun x => match x with
        | .tmp s => (List.range ops.size).all fun k => k == i || dstOf ops k != some s || depOn o k || (match ops[k]? with | some o' => depOn o' i | none => false)
        | _ => true) &&
      (match o.guard with | none => true | some (j, _) => depOn o j && (dstOf ops j).isSome) &&
      (o.after.all fun e => !Region.binds .any e || decide (e.on < i)) &&
      (match o.op with | .select .. => false | _ => true)
def runs (P : Program) (o : Oper) (ρ : Operand → Value) (w : World) (R : Value → World → Prop) : Prop :=
  match (execOp ρ o).run P w with
  | .ok (.value v) w' => R v w'
  | .ok .skip w' => R undef w'
  | .ok (.enter f args) w' => Calls P f args w' fun e w'' => ∃ v, e = .returned v ∧ R v w''
  | _ => False
def wants (yv : Nat → Option Bool) (o : Oper) : Bool :=
  match o.guard with
  | none => true
  | some (j, b) => yv j == some b

section
variable {P : Program} {ops : Array Oper} {Q : Exit → Act → World → Prop} {a0 : Act} {C : World → Prop} {Step : World → World → Prop} {V : Nat → World → Value → Prop} {yv : Nat → Option Bool}

theorem runs_wp {o : Oper} {a : Act} {w : World} {K : Act → World → Prop} {ρ : Operand → Value} (he : execOp a.eval o = execOp ρ o) (h : runs P o ρ w fun v w' => K (a.put o.dst v) w') : o.wp P a w K Q := by
  unfold Oper.wp
  rw [he]
  unfold runs at h
  generalize (execOp ρ o).run P w = r at *
  cases r with
  | ok n w' =>
    cases n with
    | value v => exact h
    | skip => exact h
    | enter f args => exact Calls.mono h (fun e w'' ⟨v, he, hk⟩ => by subst he; exact hk)
    | _ => exact h.elim
  | halt x w' => exact h.elim

theorem range_all {n : Nat} {p : Nat → Bool} (h : (List.range n).all p = true) {i : Nat} (hi : i < n) : p i = true := List.all_eq_true.1 h i (List.mem_range.2 hi)

structure Fact (ops : Array Oper) (size i : Nat) (o : Oper) : Prop where
  dst : ∀ d, o.dst = some d → d < size ∧ ∀ k, k < ops.size → k ≠ i → dstOf ops k ≠ some d
  reads : ∀ s, .tmp s ∈ o.op.operands → ∀ k, k < ops.size → k ≠ i → dstOf ops k = some s → depOn o k = true ∨ ∃ o', ops[k]? = some o' ∧ depOn o' i = true
  guard : ∀ j b, o.guard = some (j, b) → depOn o j = true ∧ (dstOf ops j).isSome = true
  back : ∀ j, depOn o j = true → j < i
  sel : ∀ cs b, o.op ≠ .select cs b
theorem fact_of {size i : Nat} {o : Oper} (h : regionOk ops size = true) (ho : ops[i]? = some o) : Fact ops size i o := by
  have hi : i < ops.size := (Array.getElem?_eq_some_iff.1 ho).1
  have h1 := range_all h hi
  simp only [ho, Bool.and_eq_true] at h1
  obtain ⟨⟨⟨⟨h1, h2⟩, h3⟩, h4⟩, h5⟩ := h1
  refine ⟨fun d hd => ?_, fun s hs k hk hne hdk => ?_, fun j b hg => ?_, fun j hj => ?_, fun cs b hc => ?_⟩
  · simp only [hd, Bool.and_eq_true, decide_eq_true_eq] at h1
    refine ⟨h1.1, fun k hk hne => ?_⟩
    have := range_all h1.2 hk
    simpa [hne] using this
  · have hx := (Array.all_eq_true_iff_forall_mem.1 h2) _ hs
    have := range_all hx hk
    simp only [hdk, Bool.or_eq_true, beq_iff_eq, hne, bne_self_eq_false, Bool.false_eq_true, or_false, false_or] at this
    rcases this with h | h
    · exact .inl h
    · right
      cases hok : ops[k]? with
      | none => rw [hok] at h; exact absurd h (by simp)
      | some o' => rw [hok] at h; exact ⟨o', rfl, h⟩
  · simpa [hg] using h3
  · unfold depOn at hj
    rw [Array.any_eq_true'] at hj
    obtain ⟨e, he, hb⟩ := hj
    have := (Array.all_eq_true_iff_forall_mem.1 h4) e he
    simp only [Bool.and_eq_true, beq_iff_eq] at hb
    obtain ⟨hb, rfl⟩ := hb
    simpa [hb] using this
  · simp [hc] at h5

structure Inv (ops : Array Oper) (a0 : Act) (C : World → Prop) (V : Nat → World → Value → Prop) (L : Nat → Bool) (vs : Nat → Value) (a : Act) (w : World) : Prop where
  cls : C w
  defers : a.defers = a0.defers
  size : a.tmps.size = a0.tmps.size
  slot : ∀ s, a.tmps.getD s undef = look ops a0 L vs s
  val : ∀ i, i < ops.size → L i = true → V i w (vs i)
  closed : ∀ i o, ops[i]? = some o → L i = true → ∀ j, depOn o j = true → L j = true

theorem find_unique {n i : Nat} {p : Nat → Bool} (hi : i < n) (hp : p i = true) (hu : ∀ k, k < n → p k = true → k = i) : (List.range n).find? p = some i := by
  cases h : (List.range n).find? p with
  | none => exact absurd hp (by simpa using List.find?_eq_none.1 h i (List.mem_range.2 hi))
  | some k =>
    have hk := List.mem_range.1 (List.mem_of_find?_eq_some h)
    rw [hu k hk (List.find?_some h)]
theorem find_congr {n : Nat} {p q : Nat → Bool} (h : ∀ k, k < n → p k = q k) : (List.range n).find? p = (List.range n).find? q := by
  have key : ∀ l : List Nat, (∀ k ∈ l, k < n) → l.find? p = l.find? q := by
    intro l
    induction l with
    | nil => intro _; rfl
    | cons x l ih =>
      intro hl
      rw [List.find?_cons, List.find?_cons, h x (hl x List.mem_cons_self), ih (fun k hk => hl k (List.mem_cons_of_mem _ hk))]
  exact key _ (fun k hk => List.mem_range.1 hk)

theorem count_lt {p q : Nat → Bool} : ∀ {l : List Nat} {x : Nat}, x ∈ l → p x = true → q x = false → (∀ k, q k = true → p k = true) → (l.filter q).length < (l.filter p).length
  | y :: l, x, hx, hp, hq, hqp => by
    have hle : ∀ m : List Nat, (m.filter q).length ≤ (m.filter p).length := by
      intro m
      induction m with
      | nil => simp
      | cons z m ih =>
        rw [List.filter_cons, List.filter_cons]
        by_cases h : q z = true
        · rw [if_pos h, if_pos (hqp z h)]; simp; exact ih
        · rw [if_neg h]
          split
          · simp; omega
          · exact ih
    rw [List.filter_cons, List.filter_cons]
    rcases List.mem_cons.1 hx with rfl | hx
    · rw [if_neg (by rw [hq]; simp), if_pos hp]
      have := hle l
      simp; omega
    · have ih := count_lt hx hp hq hqp
      by_cases h : q y = true
      · rw [if_pos h, if_pos (hqp y h)]; simp; exact ih
      · rw [if_neg h]
        split
        · simp; omega
        · exact ih
theorem getD_of_lt {l : Array Bool} {i : Nat} (h : i < l.size) (d d' : Bool) : l.getD i d = l.getD i d' := by simp [Array.getD, h]
theorem all_listed {size : Nat} (hok : regionOk ops size = true) {listed : Array Bool} (hs : listed.size = ops.size) (hr : Region.ready .any ops listed = []) : ∀ i, i < ops.size → listed.getD i false = true := by
  intro i
  induction i using Nat.strongRecOn with
  | _ i ih =>
    intro hi
    cases hb : listed.getD i false with
    | true => rfl
    | false =>
      exfalso
      have ho : ops[i]? = some ops[i] := Array.getElem?_eq_getElem hi
      have F := fact_of hok ho
      have hm : i ∈ Region.ready .any ops listed := mem_ready.2 ⟨by rw [getD_of_lt (by omega) true false]; exact hb, _, ho, fun e he hbd => ?_⟩
      · rw [hr] at hm; cases hm
      · have hd : depOn ops[i] e.on = true := by
          unfold depOn
          rw [Array.any_eq_true']
          exact ⟨e, he, by simp [hbd]⟩
        have hlt := F.back _ hd
        exact ih _ hlt (by omega)
theorem look_all {L : Nat → Bool} {vs : Nat → Value} (h : ∀ i, i < ops.size → L i = true) (s : Nat) : look ops a0 L vs s = look ops a0 (fun _ => true) vs s := by
  unfold look
  rw [find_congr (q := fun i => true && dstOf ops i == some s) (fun k hk => by rw [h k hk])]
variable (hok : regionOk ops a0.tmps.size = true)
  (hrefl : ∀ w, Step w w)
  (hstab : ∀ i w w' v, i < ops.size → Step w w' → V i w v → V i w' v)
  (hyv : ∀ (i : Nat) (o : Oper) (j : Nat) (b : Bool), ops[i]? = some o → o.guard = some (j, b) → ∀ w v, V j w v → boolOf v = yv j)
  (hop : ∀ i o, ops[i]? = some o → ∀ (vs : Nat → Value) w, C w → (∀ j, depOn o j = true → V j w (vs j)) →
    if wants yv o = true then runs P o (rho ops a0 (depOn o) vs) w (fun v w' => C w' ∧ Step w w' ∧ V i w' v) else V i w undef)
  (hend : ∀ (vs : Nat → Value) w a, C w → (∀ i, i < ops.size → V i w (vs i)) → a.defers = a0.defers → a.tmps.size = a0.tmps.size → (∀ s, a.tmps.getD s undef = look ops a0 (fun _ => true) vs s) → Q .normal a w)
include hend in
theorem end_ok {listed : Array Bool} {vs : Nat → Value} {a : Act} {w : World} (hall : ∀ i, i < ops.size → listed.getD i false = true) (I : Inv ops a0 C V (fun i => listed.getD i false) vs a w) : Q .normal a w :=
  hend vs w a I.cls (fun i hi => I.val i hi (hall i hi)) I.defers I.size (fun s => by rw [I.slot s]; exact look_all hall s)
include hok hrefl hstab hyv hop hend in
theorem any_ok : ∀ (fuel : Nat) (listed : Array Bool) (vs : Nat → Value) (a : Act) (w : World), listed.size = ops.size → ((List.range ops.size).filter (fun i => !listed.getD i false)).length ≤ fuel →
    Inv ops a0 C V (fun i => listed.getD i false) vs a w → wpAny P .any ops Q fuel listed a w
  | 0, listed, vs, a, w, hs, hc, I => by
    have hall : ∀ i, i < ops.size → listed.getD i false = true := by
      intro i hi
      cases hb : listed.getD i false with
      | true => rfl
      | false =>
        exfalso
        have hm : i ∈ (List.range ops.size).filter (fun i => !listed.getD i false) := List.mem_filter.2 ⟨List.mem_range.2 hi, by simp [hb]⟩
        have := List.length_pos_of_mem hm
        omega
    refine ⟨?_, end_ok hend hall I⟩
    rw [List.eq_nil_iff_forall_not_mem]
    intro j hj
    obtain ⟨h1, o, ho, _⟩ := mem_ready.1 hj
    have hjn : j < ops.size := (Array.getElem?_eq_some_iff.1 ho).1
    rw [getD_of_lt (by omega) true false, hall j hjn] at h1
    cases h1
  | fuel + 1, listed, vs, a, w, hs, hc, I => by
    refine ⟨fun hr => end_ok hend (all_listed hok hs hr) I, fun i hi => ?_⟩
    obtain ⟨h1, o, ho, hdeps⟩ := mem_ready.1 hi
    have hin : i < ops.size := (Array.getElem?_eq_some_iff.1 ho).1
    have hun : listed.getD i false = false := by rw [getD_of_lt (by omega) false true]; exact h1
    have F := fact_of hok ho
    have hdep : ∀ j, depOn o j = true → listed.getD j false = true := by
      intro j hj
      unfold depOn at hj
      rw [Array.any_eq_true'] at hj
      obtain ⟨e, he, hb⟩ := hj
      simp only [Bool.and_eq_true, beq_iff_eq] at hb
      obtain ⟨hb, rfl⟩ := hb
      exact hdeps e he hb
    have hV : ∀ j, depOn o j = true → V j w (vs j) := fun j hj => I.val j (by have := F.back j hj; omega) (hdep j hj)
    -- what it reads
    have hlk : ∀ s, .tmp s ∈ o.op.operands → look ops a0 (fun i => listed.getD i false) vs s = look ops a0 (depOn o) vs s := by
      intro s hso
      unfold look
      rw [find_congr (q := fun k => depOn o k && dstOf ops k == some s)]
      intro k hk
      show (listed.getD k false && dstOf ops k == some s) = (depOn o k && dstOf ops k == some s)
      by_cases hd : dstOf ops k = some s
      · have e1 : listed.getD k false = depOn o k := by
          by_cases hki : k = i
          · subst hki
            rw [hun]
            cases hb : depOn o k with
            | false => rfl
            | true => exact absurd (F.back k hb) (by omega)
          · cases hb : depOn o k with
            | true => exact hdep k hb
            | false =>
              rcases F.reads s hso k hk hki hd with h | ⟨o', ho', h⟩
              · rw [hb] at h; cases h
              · cases hl : listed.getD k false with
                | false => rfl
                | true =>
                  have := I.closed k o' ho' hl i h
                  rw [hun] at this; cases this
        rw [e1]
      · have : (dstOf ops k == some s) = false := by simpa using hd
        rw [this, Bool.and_false, Bool.and_false]
    have hev : execOp a.eval o = execOp (rho ops a0 (depOn o) vs) o := by
      refine execOp_congr o F.sel fun x hx => ?_
      cases x with
      | tmp s =>
        show a.tmps.getD s undef = look ops a0 (depOn o) vs s
        rw [I.slot s]; exact hlk s hx
      | const v => rfl
      | global g => rfl
      | func f => rfl
    -- is it wanted
    have hw : Region.wanted o (yielded ops a.tmps) = wants yv o := by
      unfold Region.wanted wants
      cases hg : o.guard with
      | none => rfl
      | some jb =>
        obtain ⟨j, b⟩ := jb
        obtain ⟨hdj, hds⟩ := F.guard j b hg
        have hjn : j < ops.size := by have := F.back j hdj; omega
        obtain ⟨d, hd⟩ := Option.isSome_iff_exists.1 hds
        have Fj := fact_of hok (Array.getElem?_eq_getElem hjn)
        have hdj' : ops[j].dst = some d := by
          have := hd
          unfold dstOf at this
          rw [Array.getElem?_eq_getElem hjn] at this
          exact this
        have hsl : a.tmps.getD d undef = vs j := by
          rw [I.slot d]
          unfold look
          rw [find_unique (i := j) hjn (by simp only [hdep j hdj, hd, beq_self_eq_true, Bool.and_self]) (fun k hk hp => by
            by_cases e : k = j
            · exact e
            · simp only [Bool.and_eq_true, beq_iff_eq] at hp
              exact absurd hp.2 ((Fj.dst d hdj').2 k hk e))]
        have hdl : d < a.tmps.size := by rw [I.size]; exact (Fj.dst d hdj').1
        have hy : yielded ops a.tmps j = boolOf (vs j) := by
          unfold yielded
          have : (ops[j]?).bind (·.dst) = some d := hd
          rw [this]
          simp only [Option.bind_some]
          have e2 : a.tmps[d]? = some (vs j) := by
            rw [Array.getElem?_eq_getElem hdl]
            have : a.tmps.getD d undef = a.tmps[d] := by simp [Array.getD, hdl]
            rw [← this, hsl]
          rw [e2]
          cases vs j <;> rfl
        show (yielded ops a.tmps j == some b) = (yv j == some b)
        rw [hy, hyv i o j b ho hg w (vs j) (hV j hdj)]
    have hI : ∀ v w', C w' → Step w w' → V i w' v → Inv ops a0 C V (fun k => (listed.setIfInBounds i true).getD k false) (fun k => if k = i then v else vs k) (a.put o.dst v) w' := by
      intro v w' hC hS hVv
      have hgi : (listed.setIfInBounds i true).getD i false = true := by simp [Array.getD, hs, hin]
      have hgo : ∀ k, k ≠ i → (listed.setIfInBounds i true).getD k false = listed.getD k false := fun k hk => getD_set_ne false (Ne.symm hk)
      refine ⟨hC, by rw [← I.defers]; cases o.dst <;> rfl, by rw [← I.size]; cases o.dst <;> simp [Act.put], fun s => ?_, fun k hk hl => ?_, fun k o' hk hl j hj => ?_⟩
      · by_cases hd : o.dst = some s
        · have Fd := F.dst s hd
          have e1 : (a.put o.dst v).tmps.getD s undef = v := by
            rw [hd]; simp [Act.put, Array.getD, I.size, Fd.1]
          rw [e1]
          unfold look
          rw [find_unique (i := i) hin (by simp only [hgi, dstOf, ho, Option.bind_some, hd, beq_self_eq_true, Bool.and_self]) (fun k hk hp => by
            by_cases e : k = i
            · exact e
            · simp only [Bool.and_eq_true, beq_iff_eq] at hp
              exact absurd hp.2 (Fd.2 k hk e))]
          simp
        · have e1 : (a.put o.dst v).tmps.getD s undef = a.tmps.getD s undef := by
            cases hdo : o.dst with
            | none => rfl
            | some d =>
              have hne : d ≠ s := fun e => hd (by rw [hdo, e])
              have := Act.eval_put (a := a) (dst := some d) (v := v) (x := .tmp s) (fun d' hd' => by cases hd'; intro e; cases e; exact hne rfl)
              exact this
          rw [e1, I.slot s]
          unfold look
          rw [find_congr (p := fun k => (listed.setIfInBounds i true).getD k false && dstOf ops k == some s) (q := fun k => listed.getD k false && dstOf ops k == some s) (fun k hk => by
            by_cases e : k = i
            · subst e
              have : (dstOf ops k == some s) = false := by simp only [dstOf, ho, Option.bind_some, beq_eq_false_iff_ne]; exact hd
              rw [this, Bool.and_false, Bool.and_false]
            · rw [hgo k e])]
          cases hf : (List.range ops.size).find? (fun k => listed.getD k false && dstOf ops k == some s) with
          | none => rfl
          | some k =>
            have hp := List.find?_some hf
            simp only [Bool.and_eq_true] at hp
            have : k ≠ i := fun e => by rw [e, hun] at hp; exact absurd hp.1 (by simp)
            simp [this]
      · by_cases e : k = i
        · subst e; simpa using hVv
        · simp only [e, if_false]
          exact hstab k w w' _ hk hS (I.val k hk (by rw [← hgo k e]; exact hl))
      · by_cases e : k = i
        · subst e
          have : o' = o := by rw [ho] at hk; exact (Option.some.inj hk).symm
          subst this
          have hlj := hdep j hj
          by_cases ej : j = k
          · rw [ej]; exact hgi
          · rw [hgo j ej]; exact hlj
        · have h2 := I.closed k o' hk (by rw [← hgo k e]; exact hl) j hj
          by_cases ej : j = i
          · rw [ej]; exact hgi
          · rw [hgo j ej]; exact h2
    have hc' : ((List.range ops.size).filter (fun k => !(listed.setIfInBounds i true).getD k false)).length ≤ fuel := by
      have := count_lt (l := List.range ops.size) (x := i) (p := fun k => !listed.getD k false) (q := fun k => !(listed.setIfInBounds i true).getD k false) (List.mem_range.2 hin) (by simp [hun]) (by simp [Array.getD, hs, hin]) (fun k hk => by
        by_cases e : k = i
        · subst e; simp [hun]
        · rw [getD_set_ne false (Ne.symm e)] at hk; exact hk)
      omega
    have hgo := hop i o ho vs w I.cls hV
    unfold wpOp
    simp only [ho]
    rw [hw]
    by_cases hwt : wants yv o = true
    · rw [if_pos hwt] at hgo ⊢
      refine .inl (runs_wp hev ?_)
      have mono : ∀ {R R' : Value → World → Prop}, (∀ v w', R v w' → R' v w') → runs P o (rho ops a0 (depOn o) vs) w R → runs P o (rho ops a0 (depOn o) vs) w R' := by
        intro R R' hR h
        unfold runs at *
        split at h <;> first | exact hR _ _ h | exact Calls.mono h (fun e w'' ⟨v, he, hk⟩ => ⟨v, he, hR _ _ hk⟩) | exact h.elim
      exact mono (fun v w' ⟨h1, h2, h3⟩ => any_ok fuel _ _ _ _ (by simp [hs]) hc' (hI v w' h1 h2 h3)) hgo
    · rw [if_neg hwt] at hgo ⊢
      exact any_ok fuel _ _ _ _ (by simp [hs]) hc' (hI undef w I.cls (hrefl w) hgo)

def putAll (vs : Nat → Value) : List (Nat × Option Tmp) → Act → Act
  | [], a => a
  | (i, d) :: l, a => putAll vs l (a.put d (vs i))
theorem put_defers (a : Act) (d : Option Tmp) (v : Value) : (a.put d v).defers = a.defers := by cases d <;> rfl
theorem put_size (a : Act) (d : Option Tmp) (v : Value) : (a.put d v).tmps.size = a.tmps.size := by cases d <;> simp [Act.put]
theorem putAll_defers (vs : Nat → Value) : ∀ (l : List (Nat × Option Tmp)) (a : Act), (putAll vs l a).defers = a.defers
  | [], _ => rfl
  | (i, d) :: l, a => by show (putAll vs l _).defers = _; rw [putAll_defers vs l, put_defers]
theorem putAll_size (vs : Nat → Value) : ∀ (l : List (Nat × Option Tmp)) (a : Act), (putAll vs l a).tmps.size = a.tmps.size
  | [], _ => rfl
  | (i, d) :: l, a => by show (putAll vs l _).tmps.size = _; rw [putAll_size vs l, put_size]
theorem put_getD (a : Act) (d : Option Tmp) (v : Value) (s : Nat) (h : d ≠ some s) : (a.put d v).tmps.getD s undef = a.tmps.getD s undef :=
  Act.eval_put (a := a) (dst := d) (v := v) (x := .tmp s) (fun d' hd' e => by subst hd'; cases e; exact h rfl)
theorem put_same (a : Act) (v : Value) (s : Nat) (h : s < a.tmps.size) : (a.put (some s) v).tmps.getD s undef = v := by simp [Act.put, Array.getD, h]
theorem putAll_getD (vs : Nat → Value) (s : Nat) : ∀ (l : List Nat) (a : Act), l.Nodup → (∀ i ∈ l, ∀ k ∈ l, dstOf ops i = some s → dstOf ops k = some s → k = i) → s < a.tmps.size →
    (putAll vs (l.map fun i => (i, dstOf ops i)) a).tmps.getD s undef = match l.find? (fun i => dstOf ops i == some s) with | some i => vs i | none => a.tmps.getD s undef
  | [], _, _, _, _ => rfl
  | i :: l, a, hn, hu, hs => by
    have hn' := List.nodup_cons.1 hn
    have hu' : ∀ j ∈ l, ∀ k ∈ l, dstOf ops j = some s → dstOf ops k = some s → k = j := fun j hj k hk => hu j (List.mem_cons_of_mem _ hj) k (List.mem_cons_of_mem _ hk)
    show (putAll vs (l.map fun i => (i, dstOf ops i)) (a.put (dstOf ops i) (vs i))).tmps.getD s undef = _
    rw [putAll_getD vs s l _ hn'.2 hu' (by rw [put_size]; exact hs), List.find?_cons]
    by_cases hd : dstOf ops i = some s
    · have hb : (dstOf ops i == some s) = true := by simpa using hd
      rw [hb]
      have : l.find? (fun i => dstOf ops i == some s) = none := by
        rw [List.find?_eq_none]
        intro k hk hc
        have := hu i List.mem_cons_self k (List.mem_cons_of_mem _ hk) hd (by simpa using hc)
        subst this
        exact hn'.1 hk
      rw [this, hd]
      exact put_same a (vs i) s hs
    · have hb : (dstOf ops i == some s) = false := by simpa using hd
      rw [hb]
      cases l.find? (fun i => dstOf ops i == some s) with
      | some k => rfl
      | none => exact put_getD a _ _ s hd
theorem frame_is {a : Act} {vs : Nat → Value} {D : List (Nat × Option Tmp)} (hok : regionOk ops a0.tmps.size = true) (hD : (List.range ops.size).map (fun i => (i, dstOf ops i)) = D)
    (hd : a.defers = a0.defers) (hs : a.tmps.size = a0.tmps.size) (hl : ∀ s, a.tmps.getD s undef = look ops a0 (fun _ => true) vs s) : a = putAll vs D a0 := by
  subst hD
  have e1 : a.tmps = (putAll vs ((List.range ops.size).map fun i => (i, dstOf ops i)) a0).tmps := by
    apply Array.ext
    · rw [putAll_size, hs]
    · intro s h1 h2
      have g1 : a.tmps.getD s undef = a.tmps[s] := by simp [Array.getD, h1]
      have g2 : (putAll vs ((List.range ops.size).map fun i => (i, dstOf ops i)) a0).tmps.getD s undef = (putAll vs ((List.range ops.size).map fun i => (i, dstOf ops i)) a0).tmps[s] := by simp [Array.getD, h2]
      rw [← g1, ← g2, hl s, putAll_getD vs s (List.range ops.size) a0 List.nodup_range (fun i hi k hk h3 h4 => by
        have hi := List.mem_range.1 hi
        have hk := List.mem_range.1 hk
        have F := fact_of hok (Array.getElem?_eq_getElem hi)
        by_cases e : k = i
        · exact e
        · have hdi : ops[i].dst = some s := by
            have := h3
            unfold dstOf at this
            rw [Array.getElem?_eq_getElem hi] at this
            exact this
          exact absurd h4 ((F.dst s hdi).2 k hk e)) (by omega)]
      unfold look
      simp only [Bool.true_and]
  cases a
  have e2 := putAll_defers vs ((List.range ops.size).map fun i => (i, dstOf ops i)) a0
  generalize putAll vs ((List.range ops.size).map fun i => (i, dstOf ops i)) a0 = b at *
  cases b
  simp only at e1 e2 hd
  subst e1
  rw [hd, ← e2]

theorem region_all {id : Nat} {w : World} (V : Nat → World → Value → Prop) (yv : Nat → Option Bool) (C : World → Prop) (Step : World → World → Prop) (D : List (Nat × Option Tmp)) (hm : P.follows .mixedOrders = true)
    (hok : regionOk ops a0.tmps.size = true) (hD : (List.range ops.size).map (fun i => (i, dstOf ops i)) = D)
    (hrefl : ∀ w, Step w w) (hstab : ∀ i w w' v, i < ops.size → Step w w' → V i w v → V i w' v)
    (hyv : ∀ (i : Nat) (o : Oper) (j : Nat) (b : Bool), ops[i]? = some o → o.guard = some (j, b) → ∀ w v, V j w v → boolOf v = yv j)
    (h0 : C w.drew)
    (hop : ∀ i o, ops[i]? = some o → ∀ (vs : Nat → Value) w, C w → (∀ j, depOn o j = true → V j w (vs j)) →
      if wants yv o = true then runs P o (rho ops a0 (depOn o) vs) w (fun v w' => C w' ∧ Step w w' ∧ V i w' v) else V i w undef)
    (hend : ∀ (vs : Nat → Value) w, C w → (∀ i, i < ops.size → V i w (vs i)) → Q .normal (putAll vs D a0) w) : (Code.region id ops true).wp P Q a0 w :=
  wp_region_any hm (any_ok hok hrefl hstab hyv hop (fun vs w a hC hV h1 h2 h3 => by rw [frame_is hok hD h1 h2 h3]; exact hend vs w hC hV) ops.size (Array.replicate ops.size false) (fun _ => undef) a0 _ (by simp)
    (Nat.le_trans (List.length_filter_le _ _) (by simp)) ⟨h0, rfl, rfl, fun s => by
      unfold look
      have : (List.range ops.size).find? (fun i => (Array.replicate ops.size false).getD i false && dstOf ops i == some s) = none := by
        rw [List.find?_eq_none]
        intro k hk hc
        have hk := List.mem_range.1 hk
        simp [Array.getD, hk] at hc
      rw [this], fun i hi hl => by simp [Array.getD, hi] at hl, fun i o ho hl => by
        have hi : i < ops.size := (Array.getElem?_eq_some_iff.1 ho).1
        simp [Array.getD, hi] at hl⟩)
end

theorem runs_val {P : Program} {o : Oper} {ρ : Operand → Value} {w w' : World} {R : Value → World → Prop} {v : Value} (h : (execOp ρ o).run P w = .ok (.value v) w') (hR : R v w') : runs P o ρ w R := by
  unfold runs; rw [h]; exact hR
theorem runs_skip {P : Program} {o : Oper} {ρ : Operand → Value} {w w' : World} {R : Value → World → Prop} (h : (execOp ρ o).run P w = .ok .skip w') (hR : R undef w') : runs P o ρ w R := by
  unfold runs; rw [h]; exact hR
theorem runs_call {P : Program} {o : Oper} {ρ : Operand → Value} {w w' : World} {R : Value → World → Prop} {f : FuncId} {args : Array Value} (h : (execOp ρ o).run P w = .ok (.enter f args) w') (hR : Calls P f args w' fun e w'' => ∃ v, e = .returned v ∧ R v w'') : runs P o ρ w R := by
  unfold runs; rw [h]; exact hR
theorem runs_load {P : Program} {o : Oper} {ρ : Operand → Value} {w : World} {R : Value → World → Prop} (ty : TypeId) (x : Operand) (ho : o.op = .load ty x)
    (g : Nat) (hx : ρ x = .pointer (some ⟨g, 0, none⟩)) (t : TypeId) (cs : Array Value) (fr : Nat × Nat) (d : TypeDesc) (hg : w.heap[g]? = some (.cells cs t fr))
    (hu : P.underlying ty = some d) (hd : (match d with | .struct _ | .array _ _ => true | _ => false) = true) (hi : (P.info? ty).map (·.size) = some cs.size) (hR : R (.agg cs) w) : runs P o ρ w R := by
  unfold runs execOp
  simp only [ho, hx, Instr.loadAt, Instr.sureAddr, Sem.run_bind, Sem.run_pure, Result.andThen_ok, run_loadVar_row w g t ty cs fr d hg hu hd hi]
  exact hR

def Hop (P : Program) (ops : Array Oper) (a0 : Act) (yv : Nat → Option Bool) (W : World) (V : Nat → World → Value → Prop) (i : Nat) (o : Oper) : Prop :=
  ∀ (vs : Nat → Value) (w : World), Below W.heap.size W w → (∀ j, depOn o j = true → V j w (vs j)) →
    if wants yv o = true then runs P o (rho ops a0 (depOn o) vs) w (fun v w' => Below w.heap.size w w' ∧ V i w' v) else V i w undef
def HopAll (P : Program) (ops : Array Oper) (a0 : Act) (yv : Nat → Option Bool) (W : World) (V : Nat → World → Value → Prop) : Nat → List Oper → Prop
  | _, [] => True
  | i, o :: l => Hop P ops a0 yv W V i o ∧ HopAll P ops a0 yv W V (i + 1) l
theorem HopAll.at_ {P : Program} {ops : Array Oper} {a0 : Act} {yv : Nat → Option Bool} {W : World} {V : Nat → World → Value → Prop} (l : List Oper) : ∀ (k i : Nat) (o : Oper), HopAll P ops a0 yv W V k l → l[i]? = some o → Hop P ops a0 yv W V (k + i) o := by
  induction l with
  | nil => intro k i o _ ho; simp at ho
  | cons o' l ih =>
    intro k i o h ho
    cases i with
    | zero =>
      have e : o' = o := by simpa using ho
      subst e
      exact h.1
    | succ i =>
      have h2 := ih (k + 1) i o h.2 (by simpa using ho)
      rw [show k + (i + 1) = k + 1 + i by omega]
      exact h2
def StabAll : List (World → Value → Prop) → Prop
  | [] => True
  | p :: l => (∀ (w w' : World) v, Below w.heap.size w w' → p w v → p w' v) ∧ StabAll l
theorem StabAll.at_ (l : List (World → Value → Prop)) : ∀ (i : Nat), StabAll l → ∀ (w w' : World) v, Below w.heap.size w w' → (l.getD i fun _ _ => True) w v → (l.getD i fun _ _ => True) w' v := by
  induction l with
  | nil => intro i _ w w' v _ h; simp
  | cons p l ih =>
    intro i hs w w' v hb h
    cases i with
    | zero => exact hs.1 w w' v hb h
    | succ i => exact ih i hs.2 w w' v hb h

theorem region_grown {P : Program} {ops : Array Oper} {Q : Exit → Act → World → Prop} {a0 : Act} {id : Nat} {W : World} (Vl : List (World → Value → Prop)) (yv : Nat → Option Bool) (D : List (Nat × Option Tmp)) (G : List Nat)
    (hm : P.follows .mixedOrders = true) (hok : regionOk ops a0.tmps.size = true) (hD : (List.range ops.size).map (fun i => (i, dstOf ops i)) = D)
    (hG : (List.range ops.size).all (fun i => match (ops[i]?).bind (·.guard) with | some (j, _) => G.contains j | none => true) = true)
    (hyv : ∀ j, j ∈ G → ∀ w v, (Vl.getD j fun _ _ => True) w v → boolOf v = yv j)
    (hstab : StabAll Vl)
    (hop : HopAll P ops a0 yv W (fun i => Vl.getD i fun _ _ => True) 0 ops.toList)
    (hend : ∀ (vs : Nat → Value) w, Below W.heap.size W w → (∀ i, i < ops.size → (Vl.getD i fun _ _ => True) w (vs i)) → Q .normal (putAll vs D a0) w) : (Code.region id ops true).wp P Q a0 W :=
  region_all (fun i => Vl.getD i fun _ _ => True) yv (fun w => Below W.heap.size W w) (fun w w' => Below w.heap.size w w') D hm hok hD (fun w => Below.refl _ _)
    (fun i w w' v _ hb h => StabAll.at_ _ i hstab w w' v hb h)
    (fun i o j b ho hg w v hv => by
      have hi : i < ops.size := (Array.getElem?_eq_some_iff.1 ho).1
      have := range_all hG hi
      simp only [ho, Option.bind_some, hg] at this
      exact hyv j (by simpa using this) w v hv)
    (below_drew1 (Below.refl _ _))
    (fun i o ho vs w hC hV => by
      have h := HopAll.at_ _ 0 i o hop (by simpa using ho) vs w hC hV
      rw [Nat.zero_add] at h
      by_cases hw : wants yv o = true
      · rw [if_pos hw] at h ⊢
        have mono : ∀ {R R' : Value → World → Prop}, (∀ v w', R v w' → R' v w') → runs P o (rho ops a0 (depOn o) vs) w R → runs P o (rho ops a0 (depOn o) vs) w R' := by
          intro R R' hR h
          unfold runs at *
          split at h <;> first | exact hR _ _ h | exact Calls.mono h (fun e w'' ⟨v, he, hk⟩ => ⟨v, he, hR _ _ hk⟩) | exact h.elim
        exact mono (fun v w' ⟨h1, h2⟩ => ⟨below_step hC h1, h1, h2⟩) h
      · rw [if_neg hw] at h ⊢; exact h)
    hend
end Go.Proofs.Yticpjidcgaaldaa

namespace Go.Proofs.Yticpjidcgaaldaa
open Go.RowKit Go.Proofs.YticpjidcgaaldaaW.PrintWords Go.Proofs.YticpjidcgaaldaaW.PrintLast Go.Proofs.YticpjidcgaaldaaW.PrintMore
set_option linter.unusedVariables false

structure Inv3 (ops : Array Oper) (a0 : Act) (C : World → Prop) (V : Nat → World → Value → Prop) (X : Nat → World → (Nat → Value) → Prop) (U : Nat → World → Prop) (L : Nat → Bool) (vs : Nat → Value) (a : Act) (w : World) : Prop where
  cls : C w
  defers : a.defers = a0.defers
  size : a.tmps.size = a0.tmps.size
  slot : ∀ s, a.tmps.getD s undef = look ops a0 L vs s
  val : ∀ i, i < ops.size → L i = true → V i w (vs i)
  ext : ∀ i, i < ops.size → L i = true → X i w vs
  unl : ∀ i, i < ops.size → L i = false → U i w
  closed : ∀ i o, ops[i]? = some o → L i = true → ∀ j, depOn o j = true → L j = true
section
variable {P : Program} {ops : Array Oper} {Q : Exit → Act → World → Prop} {a0 : Act} {C : World → Prop} {Step : Nat → World → World → Prop} {V : Nat → World → Value → Prop} {X : Nat → World → (Nat → Value) → Prop} {U : Nat → World → Prop} {yv : Nat → Option Bool}
variable (hok : regionOk ops a0.tmps.size = true)
  (hrefl : ∀ i w, Step i w w)
  (hstab : ∀ q i w w' v, i < ops.size → i ≠ q → Step q w w' → V i w v → V i w' v)
  (hstabX : ∀ q i w w' vs, i < ops.size → i ≠ q → Step q w w' → X i w vs → X i w' vs)
  (hstabU : ∀ q i o w w', ops[q]? = some o → depOn o i = false → i < ops.size → i ≠ q → Step q w w' → U i w → U i w')
  (hloc : ∀ i o w (vs vs' : Nat → Value), ops[i]? = some o → (∀ j, (j = i ∨ depOn o j = true) → vs j = vs' j) → X i w vs → X i w vs')
  (hyv : ∀ (i : Nat) (o : Oper) (j : Nat) (b : Bool), ops[i]? = some o → o.guard = some (j, b) → ∀ w v, V j w v → boolOf v = yv j)
  (hop : ∀ i o, ops[i]? = some o → ∀ (vs : Nat → Value) w, C w → (∀ j, depOn o j = true → V j w (vs j) ∧ X j w vs) → U i w → (∀ k o', ops[k]? = some o' → depOn o' i = true → U k w) →
    if wants yv o = true then runs P o (rho ops a0 (depOn o) vs) w (fun v w' => C w' ∧ Step i w w' ∧ V i w' v ∧ X i w' (fun k => if k = i then v else vs k)) else V i w undef ∧ X i w (fun k => if k = i then undef else vs k))
  (hend : ∀ (vs : Nat → Value) w a, C w → (∀ i, i < ops.size → V i w (vs i)) → (∀ i, i < ops.size → X i w vs) → a.defers = a0.defers → a.tmps.size = a0.tmps.size → (∀ s, a.tmps.getD s undef = look ops a0 (fun _ => true) vs s) → Q .normal a w)
include hend in
include hok hrefl hstab hstabX hstabU hloc hyv hop hend in
end
end Go.Proofs.Yticpjidcgaaldaa

namespace Go.Proofs.Yticpjidcgaaldaa
open Go.RowKit Go.Proofs.YticpjidcgaaldaaW.PrintWords Go.Proofs.YticpjidcgaaldaaW.PrintLast Go.Proofs.YticpjidcgaaldaaW.PrintMore
set_option linter.unusedVariables false

structure Inv2 (ops : Array Oper) (a0 : Act) (C : World → Prop) (V : Nat → World → Value → Prop) (X : Nat → World → (Nat → Value) → Prop) (L : Nat → Bool) (vs : Nat → Value) (a : Act) (w : World) : Prop where
  cls : C w
  defers : a.defers = a0.defers
  size : a.tmps.size = a0.tmps.size
  slot : ∀ s, a.tmps.getD s undef = look ops a0 L vs s
  val : ∀ i, i < ops.size → L i = true → V i w (vs i)
  ext : ∀ i, i < ops.size → L i = true → X i w vs
  closed : ∀ i o, ops[i]? = some o → L i = true → ∀ j, depOn o j = true → L j = true
section
variable {P : Program} {ops : Array Oper} {Q : Exit → Act → World → Prop} {a0 : Act} {C : World → Prop} {Step : World → World → Prop} {V : Nat → World → Value → Prop} {X : Nat → World → (Nat → Value) → Prop} {yv : Nat → Option Bool}
variable (hok : regionOk ops a0.tmps.size = true)
  (hrefl : ∀ w, Step w w)
  (hstab : ∀ i w w' v, i < ops.size → Step w w' → V i w v → V i w' v)
  (hstabX : ∀ i w w' vs, i < ops.size → Step w w' → X i w vs → X i w' vs)
  (hloc : ∀ i o w (vs vs' : Nat → Value), ops[i]? = some o → (∀ j, (j = i ∨ depOn o j = true) → vs j = vs' j) → X i w vs → X i w vs')
  (hyv : ∀ (i : Nat) (o : Oper) (j : Nat) (b : Bool), ops[i]? = some o → o.guard = some (j, b) → ∀ w v, V j w v → boolOf v = yv j)
  (hop : ∀ i o, ops[i]? = some o → ∀ (vs : Nat → Value) w, C w → (∀ j, depOn o j = true → V j w (vs j) ∧ X j w vs) →
    if wants yv o = true then runs P o (rho ops a0 (depOn o) vs) w (fun v w' => C w' ∧ Step w w' ∧ V i w' v ∧ X i w' (fun k => if k = i then v else vs k)) else V i w undef ∧ X i w (fun k => if k = i then undef else vs k))
  (hend : ∀ (vs : Nat → Value) w a, C w → (∀ i, i < ops.size → V i w (vs i)) → (∀ i, i < ops.size → X i w vs) → a.defers = a0.defers → a.tmps.size = a0.tmps.size → (∀ s, a.tmps.getD s undef = look ops a0 (fun _ => true) vs s) → Q .normal a w)
include hend in
theorem end_ok2 {listed : Array Bool} {vs : Nat → Value} {a : Act} {w : World} (hall : ∀ i, i < ops.size → listed.getD i false = true) (I : Inv2 ops a0 C V X (fun i => listed.getD i false) vs a w) : Q .normal a w :=
  hend vs w a I.cls (fun i hi => I.val i hi (hall i hi)) (fun i hi => I.ext i hi (hall i hi)) I.defers I.size (fun s => by rw [I.slot s]; exact look_all hall s)
include hok hrefl hstab hstabX hloc hyv hop hend in
theorem any_ok2 : ∀ (fuel : Nat) (listed : Array Bool) (vs : Nat → Value) (a : Act) (w : World), listed.size = ops.size → ((List.range ops.size).filter (fun i => !listed.getD i false)).length ≤ fuel →
    Inv2 ops a0 C V X (fun i => listed.getD i false) vs a w → wpAny P .any ops Q fuel listed a w
  | 0, listed, vs, a, w, hs, hc, I => by
    have hall : ∀ i, i < ops.size → listed.getD i false = true := by
      intro i hi
      cases hb : listed.getD i false with
      | true => rfl
      | false =>
        exfalso
        have hm : i ∈ (List.range ops.size).filter (fun i => !listed.getD i false) := List.mem_filter.2 ⟨List.mem_range.2 hi, by simp [hb]⟩
        have := List.length_pos_of_mem hm
        omega
    refine ⟨?_, end_ok2 hend hall I⟩
    rw [List.eq_nil_iff_forall_not_mem]
    intro j hj
    obtain ⟨h1, o, ho, _⟩ := mem_ready.1 hj
    have hjn : j < ops.size := (Array.getElem?_eq_some_iff.1 ho).1
    rw [getD_of_lt (by omega) true false, hall j hjn] at h1
    cases h1
  | fuel + 1, listed, vs, a, w, hs, hc, I => by
    refine ⟨fun hr => end_ok2 hend (all_listed hok hs hr) I, fun i hi => ?_⟩
    obtain ⟨h1, o, ho, hdeps⟩ := mem_ready.1 hi
    have hin : i < ops.size := (Array.getElem?_eq_some_iff.1 ho).1
    have hun : listed.getD i false = false := by rw [getD_of_lt (by omega) false true]; exact h1
    have F := fact_of hok ho
    have hdep : ∀ j, depOn o j = true → listed.getD j false = true := by
      intro j hj
      unfold depOn at hj
      rw [Array.any_eq_true'] at hj
      obtain ⟨e, he, hb⟩ := hj
      simp only [Bool.and_eq_true, beq_iff_eq] at hb
      obtain ⟨hb, rfl⟩ := hb
      exact hdeps e he hb
    have hV : ∀ j, depOn o j = true → V j w (vs j) := fun j hj => I.val j (by have := F.back j hj; omega) (hdep j hj)
    have hVX : ∀ j, depOn o j = true → V j w (vs j) ∧ X j w vs := fun j hj => ⟨hV j hj, I.ext j (by have := F.back j hj; omega) (hdep j hj)⟩
    -- what it reads
    have hlk : ∀ s, .tmp s ∈ o.op.operands → look ops a0 (fun i => listed.getD i false) vs s = look ops a0 (depOn o) vs s := by
      intro s hso
      unfold look
      rw [find_congr (q := fun k => depOn o k && dstOf ops k == some s)]
      intro k hk
      show (listed.getD k false && dstOf ops k == some s) = (depOn o k && dstOf ops k == some s)
      by_cases hd : dstOf ops k = some s
      · have e1 : listed.getD k false = depOn o k := by
          by_cases hki : k = i
          · subst hki
            rw [hun]
            cases hb : depOn o k with
            | false => rfl
            | true => exact absurd (F.back k hb) (by omega)
          · cases hb : depOn o k with
            | true => exact hdep k hb
            | false =>
              rcases F.reads s hso k hk hki hd with h | ⟨o', ho', h⟩
              · rw [hb] at h; cases h
              · cases hl : listed.getD k false with
                | false => rfl
                | true =>
                  have := I.closed k o' ho' hl i h
                  rw [hun] at this; cases this
        rw [e1]
      · have : (dstOf ops k == some s) = false := by simpa using hd
        rw [this, Bool.and_false, Bool.and_false]
    have hev : execOp a.eval o = execOp (rho ops a0 (depOn o) vs) o := by
      refine execOp_congr o F.sel fun x hx => ?_
      cases x with
      | tmp s =>
        show a.tmps.getD s undef = look ops a0 (depOn o) vs s
        rw [I.slot s]; exact hlk s hx
      | const v => rfl
      | global g => rfl
      | func f => rfl
    -- is it wanted
    have hw : Region.wanted o (yielded ops a.tmps) = wants yv o := by
      unfold Region.wanted wants
      cases hg : o.guard with
      | none => rfl
      | some jb =>
        obtain ⟨j, b⟩ := jb
        obtain ⟨hdj, hds⟩ := F.guard j b hg
        have hjn : j < ops.size := by have := F.back j hdj; omega
        obtain ⟨d, hd⟩ := Option.isSome_iff_exists.1 hds
        have Fj := fact_of hok (Array.getElem?_eq_getElem hjn)
        have hdj' : ops[j].dst = some d := by
          have := hd
          unfold dstOf at this
          rw [Array.getElem?_eq_getElem hjn] at this
          exact this
        have hsl : a.tmps.getD d undef = vs j := by
          rw [I.slot d]
          unfold look
          rw [find_unique (i := j) hjn (by simp only [hdep j hdj, hd, beq_self_eq_true, Bool.and_self]) (fun k hk hp => by
            by_cases e : k = j
            · exact e
            · simp only [Bool.and_eq_true, beq_iff_eq] at hp
              exact absurd hp.2 ((Fj.dst d hdj').2 k hk e))]
        have hdl : d < a.tmps.size := by rw [I.size]; exact (Fj.dst d hdj').1
        have hy : yielded ops a.tmps j = boolOf (vs j) := by
          unfold yielded
          have : (ops[j]?).bind (·.dst) = some d := hd
          rw [this]
          simp only [Option.bind_some]
          have e2 : a.tmps[d]? = some (vs j) := by
            rw [Array.getElem?_eq_getElem hdl]
            have : a.tmps.getD d undef = a.tmps[d] := by simp [Array.getD, hdl]
            rw [← this, hsl]
          rw [e2]
          cases vs j <;> rfl
        show (yielded ops a.tmps j == some b) = (yv j == some b)
        rw [hy, hyv i o j b ho hg w (vs j) (hV j hdj)]
    have hI : ∀ v w', C w' → Step w w' → V i w' v → X i w' (fun k => if k = i then v else vs k) → Inv2 ops a0 C V X (fun k => (listed.setIfInBounds i true).getD k false) (fun k => if k = i then v else vs k) (a.put o.dst v) w' := by
      intro v w' hC hS hVv hXv
      have hgi : (listed.setIfInBounds i true).getD i false = true := by simp [Array.getD, hs, hin]
      have hgo : ∀ k, k ≠ i → (listed.setIfInBounds i true).getD k false = listed.getD k false := fun k hk => getD_set_ne false (Ne.symm hk)
      refine ⟨hC, by rw [← I.defers]; cases o.dst <;> rfl, by rw [← I.size]; cases o.dst <;> simp [Act.put], fun s => ?_, fun k hk hl => ?_, fun k hk hl => ?_, fun k o' hk hl j hj => ?_⟩
      · by_cases hd : o.dst = some s
        · have Fd := F.dst s hd
          have e1 : (a.put o.dst v).tmps.getD s undef = v := by
            rw [hd]; simp [Act.put, Array.getD, I.size, Fd.1]
          rw [e1]
          unfold look
          rw [find_unique (i := i) hin (by simp only [hgi, dstOf, ho, Option.bind_some, hd, beq_self_eq_true, Bool.and_self]) (fun k hk hp => by
            by_cases e : k = i
            · exact e
            · simp only [Bool.and_eq_true, beq_iff_eq] at hp
              exact absurd hp.2 (Fd.2 k hk e))]
          simp
        · have e1 : (a.put o.dst v).tmps.getD s undef = a.tmps.getD s undef := by
            cases hdo : o.dst with
            | none => rfl
            | some d =>
              have hne : d ≠ s := fun e => hd (by rw [hdo, e])
              have := Act.eval_put (a := a) (dst := some d) (v := v) (x := .tmp s) (fun d' hd' => by cases hd'; intro e; cases e; exact hne rfl)
              exact this
          rw [e1, I.slot s]
          unfold look
          rw [find_congr (p := fun k => (listed.setIfInBounds i true).getD k false && dstOf ops k == some s) (q := fun k => listed.getD k false && dstOf ops k == some s) (fun k hk => by
            by_cases e : k = i
            · subst e
              have : (dstOf ops k == some s) = false := by simp only [dstOf, ho, Option.bind_some, beq_eq_false_iff_ne]; exact hd
              rw [this, Bool.and_false, Bool.and_false]
            · rw [hgo k e])]
          cases hf : (List.range ops.size).find? (fun k => listed.getD k false && dstOf ops k == some s) with
          | none => rfl
          | some k =>
            have hp := List.find?_some hf
            simp only [Bool.and_eq_true] at hp
            have : k ≠ i := fun e => by rw [e, hun] at hp; exact absurd hp.1 (by simp)
            simp [this]
      · by_cases e : k = i
        · subst e; simpa using hVv
        · simp only [e, if_false]
          exact hstab k w w' _ hk hS (I.val k hk (by rw [← hgo k e]; exact hl))
      · by_cases e : k = i
        · subst e; exact hXv
        · have hlk2 : listed.getD k false = true := by rw [← hgo k e]; exact hl
          refine hloc k ops[k] w' vs _ (Array.getElem?_eq_getElem hk) (fun j hj => ?_) (hstabX k w w' vs hk hS (I.ext k hk hlk2))
          have hji : j ≠ i := by
            rcases hj with rfl | hj
            · exact e
            · intro e2
              have := I.closed k ops[k] (Array.getElem?_eq_getElem hk) hlk2 j hj
              rw [e2, hun] at this; cases this
          simp [hji]
      · by_cases e : k = i
        · subst e
          have : o' = o := by rw [ho] at hk; exact (Option.some.inj hk).symm
          subst this
          have hlj := hdep j hj
          by_cases ej : j = k
          · rw [ej]; exact hgi
          · rw [hgo j ej]; exact hlj
        · have h2 := I.closed k o' hk (by rw [← hgo k e]; exact hl) j hj
          by_cases ej : j = i
          · rw [ej]; exact hgi
          · rw [hgo j ej]; exact h2
    have hc' : ((List.range ops.size).filter (fun k => !(listed.setIfInBounds i true).getD k false)).length ≤ fuel := by
      have := count_lt (l := List.range ops.size) (x := i) (p := fun k => !listed.getD k false) (q := fun k => !(listed.setIfInBounds i true).getD k false) (List.mem_range.2 hin) (by simp [hun]) (by simp [Array.getD, hs, hin]) (fun k hk => by
        by_cases e : k = i
        · subst e; simp [hun]
        · rw [getD_set_ne false (Ne.symm e)] at hk; exact hk)
      omega
    have hgo := hop i o ho vs w I.cls hVX
    unfold wpOp
    simp only [ho]
    rw [hw]
    by_cases hwt : wants yv o = true
    · rw [if_pos hwt] at hgo ⊢
      refine .inl (runs_wp hev ?_)
      have mono : ∀ {R R' : Value → World → Prop}, (∀ v w', R v w' → R' v w') → runs P o (rho ops a0 (depOn o) vs) w R → runs P o (rho ops a0 (depOn o) vs) w R' := by
        intro R R' hR h
        unfold runs at *
        split at h <;> first | exact hR _ _ h | exact Calls.mono h (fun e w'' ⟨v, he, hk⟩ => ⟨v, he, hR _ _ hk⟩) | exact h.elim
      exact mono (fun v w' ⟨h1, h2, h3, h4⟩ => any_ok2 fuel _ _ _ _ (by simp [hs]) hc' (hI v w' h1 h2 h3 h4)) hgo
    · rw [if_neg hwt] at hgo ⊢
      exact any_ok2 fuel _ _ _ _ (by simp [hs]) hc' (hI undef w I.cls (hrefl w) hgo.1 hgo.2)

theorem region_all2 {id : Nat} {w : World} (V : Nat → World → Value → Prop) (X : Nat → World → (Nat → Value) → Prop) (yv : Nat → Option Bool) (C : World → Prop) (Step : World → World → Prop) (D : List (Nat × Option Tmp)) (hm : P.follows .mixedOrders = true)
    (hok : regionOk ops a0.tmps.size = true) (hD : (List.range ops.size).map (fun i => (i, dstOf ops i)) = D)
    (hrefl : ∀ w, Step w w) (hstab : ∀ i w w' v, i < ops.size → Step w w' → V i w v → V i w' v)
    (hstabX : ∀ i w w' vs, i < ops.size → Step w w' → X i w vs → X i w' vs)
    (hloc : ∀ i o w (vs vs' : Nat → Value), ops[i]? = some o → (∀ j, (j = i ∨ depOn o j = true) → vs j = vs' j) → X i w vs → X i w vs')
    (hyv : ∀ (i : Nat) (o : Oper) (j : Nat) (b : Bool), ops[i]? = some o → o.guard = some (j, b) → ∀ w v, V j w v → boolOf v = yv j)
    (h0 : C w.drew)
    (hop : ∀ i o, ops[i]? = some o → ∀ (vs : Nat → Value) w, C w → (∀ j, depOn o j = true → V j w (vs j) ∧ X j w vs) →
      if wants yv o = true then runs P o (rho ops a0 (depOn o) vs) w (fun v w' => C w' ∧ Step w w' ∧ V i w' v ∧ X i w' (fun k => if k = i then v else vs k)) else V i w undef ∧ X i w (fun k => if k = i then undef else vs k))
    (hend : ∀ (vs : Nat → Value) w, C w → (∀ i, i < ops.size → V i w (vs i)) → (∀ i, i < ops.size → X i w vs) → Q .normal (putAll vs D a0) w) : (Code.region id ops true).wp P Q a0 w :=
  wp_region_any hm (any_ok2 hok hrefl hstab hstabX hloc hyv hop (fun vs w a hC hV hX h1 h2 h3 => by rw [frame_is hok hD h1 h2 h3]; exact hend vs w hC hV hX) ops.size (Array.replicate ops.size false) (fun _ => undef) a0 _ (by simp)
    (Nat.le_trans (List.length_filter_le _ _) (by simp)) ⟨h0, rfl, rfl, fun s => by
      unfold look
      have : (List.range ops.size).find? (fun i => (Array.replicate ops.size false).getD i false && dstOf ops i == some s) = none := by
        rw [List.find?_eq_none]
        intro k hk hc
        have hk := List.mem_range.1 hk
        simp [Array.getD, hk] at hc
      rw [this], fun i hi hl => by simp [Array.getD, hi] at hl, fun i hi hl => by simp [Array.getD, hi] at hl, fun i o ho hl => by
        have hi : i < ops.size := (Array.getElem?_eq_some_iff.1 ho).1
        simp [Array.getD, hi] at hl⟩)
end

def Fills (B : Nat) (Z F : Obj) (w w' : World) : Prop := Below 0 w w' ∧ ∀ k, k < w.heap.size → w'.heap[k]? = w.heap[k]? ∨ (B ≤ k ∧ w.heap[k]? = some Z ∧ w'.heap[k]? = some F)
theorem Fills.of_below {B : Nat} {Z F : Obj} {w w' : World} (h : Below w.heap.size w w') : Fills B Z F w w' := ⟨h.mono (Nat.zero_le _), fun k hk => .inl (h.block k hk)⟩
theorem runs_store_row {P : Program} {o : Oper} {ρ : Operand → Value} {w : World} {R : Value → World → Prop} (ty : TypeId) (x y : Operand) (ho : o.op = .store ty x y)
    (g : Nat) (cs : Array Value) (hx : ρ x = .pointer (some ⟨g, 0, none⟩)) (hy : ρ y = .agg cs) (t : TypeId) (cur : Array Value) (hg : w.heap[g]? = some (.cells cur t (0, 0))) (hz : (P.info? ty).map (·.size) = some cs.size) (hs : cur.size = cs.size) (h1 : cs.all (fun v => v.oneCell') = true)
    (hR : R undef (w.setRow g cs)) : runs P o ρ w R := by
  unfold runs execOp
  simp only [ho, hx, hy, Instr.storeAt, Instr.sureAddr, Sem.run_bind, Sem.run_pure, Result.andThen_ok, run_storeVar_row w g t ty cur cs hg hz hs h1]
  exact hR

def StabF (B : Nat) (Z F : Obj) : List (World → Value → Prop) → Prop
  | [] => True
  | p :: l => (∀ (w w' : World) v, Fills B Z F w w' → p w v → p w' v) ∧ StabF B Z F l
theorem StabF.at_ {B : Nat} {Z F : Obj} (l : List (World → Value → Prop)) : ∀ (i : Nat), StabF B Z F l → ∀ (w w' : World) v, Fills B Z F w w' → (l.getD i fun _ _ => True) w v → (l.getD i fun _ _ => True) w' v := by
  induction l with
  | nil => intro i _ w w' v _ h; simp
  | cons p l ih =>
    intro i hs w w' v hb h
    cases i with
    | zero => exact hs.1 w w' v hb h
    | succ i => exact ih i hs.2 w w' v hb h
def Made (B : Nat) (Z F : Obj) (w : World) (v : Value) : Prop := ∃ g, v = .pointer (some ⟨g, 0, none⟩) ∧ B ≤ g ∧ (w.heap[g]? = some Z ∨ w.heap[g]? = some F)
theorem Made.stab {B : Nat} {Z F : Obj} (w w' : World) (v : Value) (hf : Fills B Z F w w') (h : Made B Z F w v) : Made B Z F w' v := by
  obtain ⟨g, e, hg, h⟩ := h
  refine ⟨g, e, hg, ?_⟩
  rcases h with h | h
  · rcases hf.2 g (blk_lt h) with e | ⟨_, _, e⟩
    · exact .inl (e.trans h)
    · exact .inr e
  · rcases hf.2 g (blk_lt h) with e | ⟨_, _, e⟩
    · exact .inr (e.trans h)
    · exact .inr e
def HopF (P : Program) (ops : Array Oper) (a0 : Act) (yv : Nat → Option Bool) (W : World) (ia is : Nat) (Z F : Array Value) (T : TypeId) (V : Nat → World → Value → Prop) (i : Nat) (o : Oper) : Prop :=
  ∀ (vs : Nat → Value) (w : World), Below W.heap.size W w → (∀ j, depOn o j = true → V j w (vs j)) →
    if i = is then ∀ g cur, vs ia = .pointer (some ⟨g, 0, none⟩) → w.heap[g]? = some (.cells cur T (0, 0)) → cur.size = F.size → runs P o (rho ops a0 (depOn o) vs) w (fun _ w' => w' = w.setRow g F)
    else if wants yv o = true then runs P o (rho ops a0 (depOn o) vs) w (fun v w' => Below w.heap.size w w' ∧ V i w' v) else V i w undef
def HopFAll (P : Program) (ops : Array Oper) (a0 : Act) (yv : Nat → Option Bool) (W : World) (ia is : Nat) (Z F : Array Value) (T : TypeId) (V : Nat → World → Value → Prop) : Nat → List Oper → Prop
  | _, [] => True
  | i, o :: l => HopF P ops a0 yv W ia is Z F T V i o ∧ HopFAll P ops a0 yv W ia is Z F T V (i + 1) l
theorem HopFAll.at_ {P : Program} {ops : Array Oper} {a0 : Act} {yv : Nat → Option Bool} {W : World} {ia is : Nat} {Z F : Array Value} {T : TypeId} {V : Nat → World → Value → Prop} (l : List Oper) : ∀ (k i : Nat) (o : Oper), HopFAll P ops a0 yv W ia is Z F T V k l → l[i]? = some o → HopF P ops a0 yv W ia is Z F T V (k + i) o := by
  induction l with
  | nil => intro k i o _ ho; simp at ho
  | cons o' l ih =>
    intro k i o h ho
    cases i with
    | zero =>
      have e : o' = o := by simpa using ho
      subst e
      exact h.1
    | succ i =>
      have h2 := ih (k + 1) i o h.2 (by simpa using ho)
      rw [show k + (i + 1) = k + 1 + i by omega]
      exact h2
theorem region_fill {P : Program} {ops : Array Oper} {Q : Exit → Act → World → Prop} {a0 : Act} {id : Nat} {W : World} (ia is : Nat) (Z F : Array Value) (T : TypeId) (Vl : List (World → Value → Prop)) (yv : Nat → Option Bool) (D : List (Nat × Option Tmp)) (G : List Nat)
    (hm : P.follows .mixedOrders = true) (hok : regionOk ops a0.tmps.size = true) (hD : (List.range ops.size).map (fun i => (i, dstOf ops i)) = D)
    (hG : (List.range ops.size).all (fun i => match (ops[i]?).bind (·.guard) with | some (j, _) => G.contains j | none => true) = true)
    (hdep : (match ops[is]? with | some o => depOn o ia && o.guard.isNone | none => false) = true) (hsz : Z.size = F.size)
    (hVa : (Vl.getD ia fun _ _ => True) = Made W.heap.size (.cells Z T (0, 0)) (.cells F T (0, 0))) (hVs : (Vl.getD is fun _ _ => True) = fun _ _ => True)
    (hyv : ∀ j, j ∈ G → ∀ w v, (Vl.getD j fun _ _ => True) w v → boolOf v = yv j)
    (hstab : StabF W.heap.size (.cells Z T (0, 0)) (.cells F T (0, 0)) Vl)
    (hop : HopFAll P ops a0 yv W ia is Z F T (fun i => Vl.getD i fun _ _ => True) 0 ops.toList)
    (hend : ∀ (vs : Nat → Value) w g, Below W.heap.size W w → (∀ i, i < ops.size → (Vl.getD i fun _ _ => True) w (vs i)) → vs ia = .pointer (some ⟨g, 0, none⟩) → W.heap.size ≤ g → w.heap[g]? = some (.cells F T (0, 0)) → Q .normal (putAll vs D a0) w) : (Code.region id ops true).wp P Q a0 W := by
  obtain ⟨os, hos⟩ : ∃ os, ops[is]? = some os := by
    cases h : ops[is]? with
    | none => rw [h] at hdep; cases hdep
    | some o => exact ⟨o, rfl⟩
  rw [hos] at hdep
  simp only [Bool.and_eq_true] at hdep
  have his : is < ops.size := (Array.getElem?_eq_some_iff.1 hos).1
  refine region_all2 (fun i => Vl.getD i fun _ _ => True) (fun i w vs => i = is → ∃ g, vs ia = .pointer (some ⟨g, 0, none⟩) ∧ W.heap.size ≤ g ∧ w.heap[g]? = some (.cells F T (0, 0))) yv (fun w => Below W.heap.size W w) (Fills W.heap.size (.cells Z T (0, 0)) (.cells F T (0, 0))) D hm hok hD
    (fun w => Fills.of_below (Below.refl _ _)) (fun i w w' v _ hb h => StabF.at_ _ i hstab w w' v hb h) ?_ ?_ ?_ (below_drew1 (Below.refl _ _)) ?_ ?_
  · intro i w w' vs _ hf hx hi
    obtain ⟨g, e, hg, h⟩ := hx hi
    refine ⟨g, e, hg, ?_⟩
    rcases hf.2 g (blk_lt h) with e2 | ⟨_, _, e2⟩
    · exact e2.trans h
    · exact e2
  · intro i o w vs vs' ho heq hx hi
    obtain ⟨g, e, hg, h⟩ := hx hi
    subst hi
    obtain rfl : o = os := Option.some.inj (ho.symm.trans hos)
    exact ⟨g, by rw [← heq ia (.inr hdep.1)]; exact e, hg, h⟩
  · intro i o j b ho hg w v hv
    have hi : i < ops.size := (Array.getElem?_eq_some_iff.1 ho).1
    have := range_all hG hi
    simp only [ho, Option.bind_some, hg] at this
    exact hyv j (by simpa using this) w v hv
  · intro i o ho vs w hC hV
    have h := HopFAll.at_ _ 0 i o hop (by simpa using ho) vs w hC (fun j hj => (hV j hj).1)
    rw [Nat.zero_add] at h
    have mono : ∀ {R R' : Value → World → Prop}, (∀ v w', R v w' → R' v w') → runs P o (rho ops a0 (depOn o) vs) w R → runs P o (rho ops a0 (depOn o) vs) w R' := by
      intro R R' hR h
      unfold runs at *
      split at h <;> first | exact hR _ _ h | exact Calls.mono h (fun e w'' ⟨v, he, hk⟩ => ⟨v, he, hR _ _ hk⟩) | exact h.elim
    by_cases hi : i = is
    · subst hi
      obtain rfl : o = os := Option.some.inj (ho.symm.trans hos)
      have hw : wants yv o = true := by
        unfold wants
        cases hg : o.guard with
        | none => rfl
        | some jb => rw [hg] at hdep; exact absurd hdep.2 (by simp)
      rw [if_pos rfl] at h
      rw [if_pos hw]
      have hVia := (hV ia hdep.1).1
      rw [hVa] at hVia
      obtain ⟨g, e, hg, hcur⟩ := hVia
      have hlt : g < w.heap.size := by rcases hcur with h | h <;> exact blk_lt h
      obtain ⟨cur, hcu, hcs⟩ : ∃ cur, w.heap[g]? = some (.cells cur T (0, 0)) ∧ cur.size = F.size := by
        rcases hcur with h | h
        · exact ⟨Z, h, hsz⟩
        · exact ⟨F, h, rfl⟩
      have hset : (w.setRow g F).heap[g]? = some (.cells F T (0, 0)) := setRow_heap _ _ _ _ _ _ hcu
      have hia : ia ≠ i := by
        have F0 := (fact_of hok ho).back ia hdep.1
        omega
      refine mono (fun v w' e2 => ?_) (h g cur e hcu hcs)
      subst e2
      refine ⟨below_setRow hC hg _, ⟨⟨rfl, rfl, rfl, by simp [World.setRow], fun k hk => by omega⟩, fun k hk => ?_⟩, by rw [hVs]; trivial, fun _ => ⟨g, by simp [hia, e], hg, hset⟩⟩
      by_cases hkg : k = g
      · subst hkg
        rcases hcur with h | h
        · exact .inr ⟨hg, h, hset⟩
        · exact .inl (hset.trans h.symm)
      · exact .inl (setRow_other _ _ _ _ hkg)
    · rw [if_neg hi] at h
      by_cases hw : wants yv o = true
      · rw [if_pos hw] at h ⊢
        exact mono (fun v w' ⟨h1, h2⟩ => ⟨below_step hC h1, Fills.of_below h1, h2, fun e => absurd e hi⟩) h
      · rw [if_neg hw] at h ⊢
        exact ⟨h, fun e => absurd e hi⟩
  · intro vs w hC hV hX
    obtain ⟨g, e, hg, h⟩ := hX is his rfl
    exact hend vs w g hC hV e hg h
end Go.Proofs.Yticpjidcgaaldaa

namespace Go.Proofs.Yticpjidcgaaldaa
open Go.RowKit Go.Proofs.YticpjidcgaaldaaW.PrintWords Go.Proofs.YticpjidcgaaldaaW.PrintLast Go.Proofs.YticpjidcgaaldaaW.PrintMore
set_option linter.unusedVariables false

abbrev Writes := List (Nat × Option Nat × (World → World → Prop))
def StepW : Writes → Nat → World → World → Prop
  | [], _, w, w' => Below w.heap.size w w'
  | (k, row, E) :: l, q, w, w' => if q = k then (w.grownBy w' row ∧ E w w') ∨ w' = w else StepW l q w w'
theorem StepW.refl : ∀ (l : Writes) (q : Nat) (w : World), StepW l q w w
  | [], _, w => Below.refl _ _
  | (k, row, E) :: l, q, w => by
    unfold StepW
    split
    · exact .inr rfl
    · exact StepW.refl l q w
def StabW (i : Nat) (p : World → Value → Prop) : Writes → Prop
  | [] => ∀ w w' v, Below w.heap.size w w' → p w v → p w' v
  | (k, row, E) :: l => (k ≠ i → ∀ w w' v, w.grownBy w' row → E w w' → p w v → p w' v) ∧ StabW i p l
theorem StabW.step {i : Nat} {p : World → Value → Prop} : ∀ {l : Writes} {q : Nat} {w w' : World} {v : Value}, StabW i p l → i ≠ q → StepW l q w w' → p w v → p w' v
  | [], q, w, w', v, h, hne, hs, hp => h w w' v hs hp
  | (k, row, E) :: l, q, w, w', v, h, hne, hs, hp => by
    unfold StepW at hs
    split at hs
    · rename_i e
      rcases hs with ⟨hg, he⟩ | rfl
      · exact h.1 (fun e2 => hne (by rw [e, e2])) w w' v hg he hp
      · exact hp
    · exact h.2.step hne hs hp
theorem StabW.const {i : Nat} {p : Value → Prop} : ∀ (l : Writes), StabW i (fun _ v => p v) l
  | [] => fun _ _ _ _ h => h
  | (k, row, E) :: l => ⟨fun _ _ _ _ _ _ h => h, StabW.const l⟩
def StabU (ops : Array Oper) (i : Nat) (p : World → Prop) : Writes → Prop
  | [] => ∀ w w', Below w.heap.size w w' → p w → p w'
  | (k, row, E) :: l => (k ≠ i → (∀ o, ops[k]? = some o → depOn o i = false) → ∀ w w', w.grownBy w' row → E w w' → p w → p w') ∧ StabU ops i p l
theorem StabU.step {ops : Array Oper} {i : Nat} {p : World → Prop} : ∀ {l : Writes} {q : Nat} {w w' : World} {o : Oper}, StabU ops i p l → i ≠ q → ops[q]? = some o → depOn o i = false → StepW l q w w' → p w → p w'
  | [], q, w, w', o, h, hne, ho, hd, hs, hp => h w w' hs hp
  | (k, row, E) :: l, q, w, w', o, h, hne, ho, hd, hs, hp => by
    unfold StepW at hs
    split at hs
    · rename_i e
      rcases hs with ⟨hg, he⟩ | rfl
      · refine h.1 (fun e2 => hne (by rw [e, e2])) (fun o2 ho2 => ?_) w w' hg he hp
        rw [← e, ho] at ho2
        rw [← Option.some.inj ho2]; exact hd
      · exact hp
    · exact h.2.step hne ho hd hs hp
theorem StabU.true {ops : Array Oper} {i : Nat} : ∀ (l : Writes), StabU ops i (fun _ => True) l
  | [] => fun _ _ _ h => h
  | (k, row, E) :: l => ⟨fun _ _ _ _ _ _ h => h, StabU.true l⟩
structure Op3 where
  V : World → Value → Prop
  X : Option (Nat × (World → Value → Prop))
  U : World → Prop
def op0 : Op3 := ⟨fun _ _ => True, none, fun _ => True⟩
def Op3.Xp (x : Op3) : World → (Nat → Value) → Prop := match x.X with | none => fun _ _ => True | some (j, p) => fun w vs => p w (vs j)
def Op3.stab (ops : Array Oper) (wr : Writes) (i : Nat) (x : Op3) : Prop :=
  StabW i x.V wr ∧ (match x.X with | none => True | some (j, p) => StabW i p wr ∧ (∀ o, ops[i]? = some o → depOn o j = true)) ∧ StabU ops i x.U wr
def stabAll (ops : Array Oper) (wr : Writes) : Nat → List Op3 → Prop
  | _, [] => True
  | i, x :: l => x.stab ops wr i ∧ stabAll ops wr (i + 1) l
theorem stabAll.at_ {ops : Array Oper} {wr : Writes} : ∀ (l : List Op3) (k i : Nat), stabAll ops wr k l → (l.getD i op0).stab ops wr (k + i)
  | [], k, i, _ => by
    have : ([] : List Op3).getD i op0 = op0 := by simp
    rw [this]
    exact ⟨StabW.const _, trivial, StabU.true _⟩
  | x :: l, k, 0, h => h.1
  | x :: l, k, i + 1, h => by
    have := stabAll.at_ l (k + 1) i h.2
    rw [List.getD_cons_succ]
    rw [show k + 1 + i = k + (i + 1) by omega] at this
    exact this
section
variable (P : Program) (ops : Array Oper) (a0 : Act) (yv : Nat → Option Bool) (C : World → Prop) (wr : Writes) (L : List Op3)
def Hop3 (i : Nat) (o : Oper) : Prop :=
  ∀ (vs : Nat → Value) w, C w → (∀ j, depOn o j = true → (L.getD j op0).V w (vs j) ∧ (L.getD j op0).Xp w vs) → (L.getD i op0).U w → (∀ k o', ops[k]? = some o' → depOn o' i = true → (L.getD k op0).U w) →
    if wants yv o = true then runs P o (rho ops a0 (depOn o) vs) w (fun v w' => C w' ∧ StepW wr i w w' ∧ (L.getD i op0).V w' v ∧ (L.getD i op0).Xp w' (fun k => if k = i then v else vs k)) else (L.getD i op0).V w undef ∧ (L.getD i op0).Xp w (fun k => if k = i then undef else vs k)
def Hop3All : Nat → List Oper → Prop
  | _, [] => True
  | i, o :: l => Hop3 P ops a0 yv C wr L i o ∧ Hop3All (i + 1) l
end
theorem Hop3All.at_ {P : Program} {ops : Array Oper} {a0 : Act} {yv : Nat → Option Bool} {C : World → Prop} {wr : Writes} {L : List Op3} : ∀ (l : List Oper) (k i : Nat) (o : Oper), Hop3All P ops a0 yv C wr L k l → l[i]? = some o → Hop3 P ops a0 yv C wr L (k + i) o
  | [], k, i, o, _, h => by simp at h
  | x :: l, k, 0, o, h, ho => by
    obtain rfl : x = o := by simpa using ho
    exact h.1
  | x :: l, k, i + 1, o, h, ho => by
    have := Hop3All.at_ l (k + 1) i o h.2 (by simpa using ho)
    rw [show k + 1 + i = k + (i + 1) by omega] at this
    exact this
theorem runs_append {P : Program} {α : Type} (d : Kd α) {Rr : α → List Value → Prop} {o : Oper} {ρ : Operand → Value} {W : World} {R : Value → World → Prop} (base : Nat) (s x : Tmp) (t e : TypeId) (z : Value) (bytes : Nat)
    (ho : o.op = .call { callee := .builtin .append, args := #[.tmp s, .tmp x], argTypes := #[t, t] })
    (ht : P.underlying t = some (.slice e)) (hinfo : (P.info? e).map (fun i => (i.zero, i.size, i.bytes)) = some (some z, d.sz, bytes)) (hz : z.cells.size = d.sz) (hs0 : 0 < d.sz) (hb0 : 0 < bytes)
    (v : Value) (xs ys : List α) (A : Option Addr) (m c : Nat) (ok okp : Nat → Prop) (hs : ρ (.tmp s) = v) (hx : ρ (.tmp x) = .slice A m c)
    (HO : d.R e W base ok v xs) (HR : ReadsRow Rr d.sz W A m ys) (hKM : ∀ x cs, Rr x cs → d.M W base okp x cs) (hokp : ∀ k, okp k → ok k ∧ some k ≠ v.ownBlock) (hfresh : ∀ k, W.heap.size ≤ k → ok k)
    (hbase : base ≤ W.heap.size) (hl : (xs.length + m) * bytes ≤ 140737488355328)
    (h : ∀ v1 w1, d.R e w1 base ok v1 (xs ++ ys) → W.grownBy w1 v.ownBlock → (v1.ownBlock = v.ownBlock ∨ ∃ b, v1.ownBlock = some b ∧ W.heap.size ≤ b) → R v1 w1) : runs P o ρ W R := by
  obtain ⟨N, hN, hN0, hN1⟩ : ∃ N : Act, N.tmps.size = 2 ∧ N.eval (.tmp 0) = v ∧ N.eval (.tmp 1) = .slice A m c := ⟨⟨#[v, .slice A m c], []⟩, rfl, rfl, rfl⟩
  let o' : Oper := { o with dst := some 0, guard := none, op := .call { callee := .builtin .append, args := #[.tmp 0, .tmp 1], argTypes := #[t, t] } }
  have key := Kd.R_append_rows_step (P := P) (o := o') (a := N) (ops := #[]) (Kc := fun a' w' => R (a'.tmps.getD 0 undef) w') (Q := fun _ _ _ => False) (w0 := W) d (Rr := Rr) base (by simp [Region.wanted, o']) (.tmp 0) (.tmp 1) t e z bytes rfl ht hinfo hz hs0 hb0 v xs ys A m c ok okp hN0 hN1 HO HR hKM hokp hfresh (Below.refl _ _) hbase hl
    (fun v1 w1 h1 _ h3 h4 => by
      have e0 : ((N.put o'.dst v1).tmps.getD 0 undef) = v1 := by simp [Act.put, o', Array.getD, hN]
      show R ((N.put o'.dst v1).tmps.getD 0 undef) w1
      rw [e0]; exact h v1 w1 h1 h3 h4)
  rw [if_pos (by simp [Region.wanted, o'])] at key
  have e0 : ∀ v1, ((N.put o'.dst v1).tmps.getD 0 undef) = v1 := fun v1 => by simp [Act.put, o', Array.getD, hN]
  unfold runs
  unfold Oper.wp at key
  have e1 : (execOp ρ o).run P W = ((Builtin.append_ #[t, t] o.type #[v, .slice A m c]).run P W).andThen (fun u w' => .ok (Next.value u) w') := by
    unfold execOp
    simp only [ho, resolve, invoke, builtin, Sem.run_bind, Sem.run_pure, Result.andThen_ok, List.map_toArray, List.map_cons, List.map_nil, hs, hx]
  have e2 : (execOp N.eval o').run P W = ((Builtin.append_ #[t, t] o.type #[v, .slice A m c]).run P W).andThen (fun u w' => .ok (Next.value u) w') := by
    unfold execOp
    simp only [o', resolve, invoke, builtin, Sem.run_bind, Sem.run_pure, Result.andThen_ok, List.map_toArray, List.map_cons, List.map_nil, hN0, hN1]
  rw [e1]
  rw [e2] at key
  generalize (Builtin.append_ #[t, t] o.type #[v, .slice A m c]).run P W = r at *
  cases r with
  | ok u w' =>
    simp only [Result.andThen_ok] at key ⊢
    rw [Oper.upon_value, e0] at key
    exact key
  | halt x w' => cases x <;> exact key.elim

theorem grown_setCell (w : World) (g j : Nat) (u : Value) : w.grownBy (w.setCell ⟨g, j, none⟩ u) (some g) := ⟨rfl, rfl, rfl, by simp [World.setCell], fun k _ hk => Below.heap_setCell _ _ _ _ (fun e => hk (by rw [e]))⟩
theorem grown_setRow (w : World) (g : Nat) (cs : Array Value) : w.grownBy (w.setRow g cs) (some g) := ⟨rfl, rfl, rfl, by simp [World.setRow], fun k _ hk => setRow_other _ _ _ _ (fun e => hk (by rw [e]))⟩
end Go.Proofs.Yticpjidcgaaldaa

namespace Go.Proofs.Yticpjidcgaaldaa
open Go.RowKit Go.Proofs.YticpjidcgaaldaaW.PrintWords Go.Proofs.YticpjidcgaaldaaW.PrintLast Go.Proofs.YticpjidcgaaldaaW.PrintMore
set_option linter.unusedVariables false

def Cl2 (B : Nat) (W : World) (gd : Nat) (T : TypeId) (x0 x1 : Value) (rP rC : Option Nat) (z : World) : Prop :=
  Below B W z ∧ (∃ c2 c3, z.heap[gd]? = some (.cells #[x0, x1, c2, c3] T (0, 0))) ∧ B ≤ W.heap.size ∧ ∀ k, k < W.heap.size → k ≠ gd → some k ≠ rP → some k ≠ rC → z.heap[k]? = W.heap[k]?
section
variable {B gd : Nat} {W z z' : World} {T : TypeId} {x0 x1 : Value} {rP rC : Option Nat}
theorem Cl2.le (h : Cl2 B W gd T x0 x1 rP rC z) : B ≤ z.heap.size := Nat.le_trans h.2.2.1 h.1.size
theorem Cl2.below (h : Cl2 B W gd T x0 x1 rP rC z) (hb : Below z.heap.size z z') : Cl2 B W gd T x0 x1 rP rC z' := by
  obtain ⟨c2, c3, h2⟩ := h.2.1
  exact ⟨h.1.trans (hb.mono h.le), ⟨c2, c3, blk_below h2 hb⟩, h.2.2.1, fun k hk h1 h2 h3 => (hb.block k (Nat.lt_of_lt_of_le hk h.1.size)).trans (h.2.2.2 k hk h1 h2 h3)⟩
theorem Cl2.row {row : Option Nat} (h : Cl2 B W gd T x0 x1 rP rC z) (hg : z.grownBy z' row) (hr : row = rP ∨ row = rC) (hb : ∀ k, row = some k → B ≤ k) (hne : some gd ≠ row) : Cl2 B W gd T x0 x1 rP rC z' := by
  obtain ⟨c2, c3, h2⟩ := h.2.1
  refine ⟨h.1.grown hg h.le hb, ⟨c2, c3, (hg.block gd (blk_lt h2) hne).trans h2⟩, h.2.2.1, fun k hk h1 h2 h3 => (hg.block k (Nat.lt_of_lt_of_le hk h.1.size) (fun e => ?_)).trans (h.2.2.2 k hk h1 h2 h3)⟩
  rcases hr with hr | hr
  · exact h2 (by rw [e, hr])
  · exact h3 (by rw [e, hr])
end
theorem Hp.rows {B g : Nat} {w0 W W1 : World} {o o' : Obj} {L : List (Nat × Obj)} {r1 r2 : Option Nat} (h : Hp B w0 W ((g, o) :: L) []) (hb : Below B W W1) (hg : W1.heap[g]? = some o')
    (hk : ∀ k, k < W.heap.size → k ≠ g → some k ≠ r1 → some k ≠ r2 → W1.heap[k]? = W.heap[k]?) (hr : ∀ p ∈ L, some p.1 ≠ r1 ∧ some p.1 ≠ r2) : Hp B w0 W1 ((g, o') :: L) [] := by
  refine ⟨h.1.trans hb, fun p hp => ?_, ?_, Nat.le_trans h.le hb.size, fun φ hφ => by cases hφ⟩
  · rcases List.mem_cons.1 hp with rfl | hp
    · exact ⟨hg, h.ge (i := 0) rfl⟩
    · obtain ⟨i, hi⟩ := List.getElem?_of_mem hp
      have hi1 : ((g, o) :: L)[i + 1]? = some (p.1, p.2) := by simpa using hi
      refine ⟨(hk p.1 (h.lt hi1) (fun e => ?_) (hr p hp).1 (hr p hp).2).trans (h.get hi1), h.ge hi1⟩
      have := h.2.2.1 (i + 1) 0 p (g, o) (by simpa using hi) rfl e
      omega
  · intro i j p q hi hj he
    have key : ∀ (c : Nat) (r : Nat × Obj), ((g, o') :: L)[c]? = some r → ∃ r', ((g, o) :: L)[c]? = some r' ∧ r'.1 = r.1 := by
      intro c r hc
      match c, hc with
      | 0, hc => exact ⟨_, rfl, by rw [← Option.some.inj hc]⟩
      | c + 1, hc => exact ⟨r, hc, rfl⟩
    obtain ⟨p', hp1, hp2⟩ := key i p hi
    obtain ⟨q', hq1, hq2⟩ := key j q hj
    exact h.2.2.1 i j p' q' hp1 hq1 (hp2.trans (he.trans hq2.symm))
structure Apart2 (z : World) (gd : Nat) (vP vC : Value) : Prop where
  gp : some gd ≠ vP.ownBlock
  gc : some gd ≠ vC.ownBlock
  pc : ∀ k, vP.ownBlock = some k → some k ≠ vC.ownBlock
  new : ∀ b, z.heap.size ≤ b → some b ≠ vP.ownBlock ∧ some b ≠ vC.ownBlock ∧ some b ≠ some gd
section
variable {z : World} {gd : Nat} {vP vC : Value}
end
end Go.Proofs.Yticpjidcgaaldaa

namespace Go.Proofs.Yticpjidcgaaldaa
open Go.RowKit Go.Proofs.YticpjidcgaaldaaW.PrintWords Go.Proofs.YticpjidcgaaldaaW.PrintLast Go.Proofs.YticpjidcgaaldaaW.PrintMore
attribute [local go_sem] max2_int min2_int max_two min_two max_three min_three max_four min_four   -- for this text's walks alone
set_option linter.unusedVariables false
set_option linter.unusedSimpArgs false

end Go.Proofs.Yticpjidcgaaldaa

namespace Go.Proofs.Yticpjidcgaaldaa
open Go.RowKit Go.Proofs.YticpjidcgaaldaaW.PrintWords Go.Proofs.YticpjidcgaaldaaW.PrintLast Go.Proofs.YticpjidcgaaldaaW.PrintMore
set_option linter.unusedVariables false
set_option linter.unusedSimpArgs false

def cellN (a b : Nat) : List Int := lowN a 4 ++ lowN b 4
set_option maxHeartbeats 8000000 in
set_option maxRecDepth 100000 in
theorem bytes_any (a b : Int) (x y : Nat) (hx : a % 4294967296 = x) (hy : IntKind.u64.wrap b = y) (hxl : x ≤ 18446744073709551615) (hyl : y ≤ 18446744073709551615) (w : World) :
    Calls Try.prog 75 #[.agg #[.int .i32 a, .int .u32 b]] w fun e w' => ∃ v, e = .returned v ∧ (Kd.int .u8).R 5 w' w.heap.size (fun _ => True) v (cellN x y) ∧ Below w.heap.size w w' := by
  have g0 : (w.alloc (.cells #[.int .i32 a, .int .u32 b] 97)).heap[w.heap.size]? = some (.cells #[.int .i32 a, .int .u32 b] 97 (0, 0)) := blk_new _ _
  have hal := below_alloc (Below.refl w.heap.size w) (.cells #[.int .i32 a, .int .u32 b] 97)
  obtain ⟨W, hW⟩ : ∃ W, w.alloc (.cells #[.int .i32 a, .int .u32 b] 97) = W := ⟨_, rfl⟩
  rw [hW] at g0 hal
  have G0 := Aside0.mk g0
  have HAL := Aside0.mk hal
  have HLE := Aside0.mk hal.size
  have HW := Aside0.mk hW
  have HX := Aside0.mk hx
  have HY := Aside0.mk hy
  have HZL := Aside0.mk (And.intro hxl hyl)
  clear g0 hal hW hx hy hxl hyl
  go_enter Try.func75, Try.ntmps75
  go_wp2_with fail
  rw [HW.out]
  clear HW
  generalize hgs : w.heap.size = gs at *
  have HGS := Aside0.mk hgs
  clear hgs
  refine region_grown (W := W)
    [fun (w : World) (v : Value) => v = .pointer (some ⟨gs, 0, none⟩),
     fun (w : World) (v : Value) => v = .int .i32 a,
     fun (w : World) (v : Value) => v = .int .u32 x,
     fun (w : World) (v : Value) => v = .int .u64 x,
     fun (w : World) (v : Value) => ∃ A c, v = .slice A 4 c ∧ 4 ≤ c ∧ (Kd.int .u8).C w A 4 (lowN x 4),
     fun (w : World) (v : Value) => v = .pointer (some ⟨gs, 1, none⟩),
     fun (w : World) (v : Value) => v = .int .u32 b,
     fun (w : World) (v : Value) => v = .int .u64 y,
     fun (w : World) (v : Value) => ∃ A c, v = .slice A 4 c ∧ 4 ≤ c ∧ (Kd.int .u8).C w A 4 (lowN y 4),
     fun (w : World) (v : Value) => ∃ A, v = .slice A 2 2 ∧ (Kd.slice 5 (Kd.int .u8)).C w A 2 [lowN x 4, lowN y 4],
     fun (w : World) (v : Value) => (Kd.int .u8).R 5 w W.heap.size (fun _ => True) v (cellN x y),
     fun (w : World) (v : Value) => (Kd.int .u8).R 5 w W.heap.size (fun _ => True) v (cellN x y)]
    (fun j =>  none)
    [(0, some 3), (1, some 4), (2, some 5), (3, some 6), (4, some 7), (5, some 8), (6, some 9), (7, some 10), (8, some 11), (9, some 12), (10, some 13), (11, some 2)]
    []
    (by kernel_rfl) (by kernel_rfl) (by kernel_rfl) (by kernel_rfl) ?r1_1g ?r1_1s ⟨?r1_1o0, ?r1_1o1, ?r1_1o2, ?r1_1o3, ?r1_1o4, ?r1_1o5, ?r1_1o6, ?r1_1o7, ?r1_1o8, ?r1_1o9, ?r1_1o10, ?r1_1o11, trivial⟩ ?r1_1e
  case r1_1g =>
    intro j hj; cases hj
  case r1_1s =>
    refine ⟨(fun w w' v hb h => h), (fun w w' v hb h => h), (fun w w' v hb h => h), (fun w w' v hb h => h), (fun w w' v hb h => let ⟨A, c, h1, h2, h3⟩ := h; ⟨A, c, h1, h2, Kd.C_below h3 hb⟩), (fun w w' v hb h => h), (fun w w' v hb h => h), (fun w w' v hb h => h), (fun w w' v hb h => let ⟨A, c, h1, h2, h3⟩ := h; ⟨A, c, h1, h2, Kd.C_below h3 hb⟩), (fun w w' v hb h => let ⟨A, h1, h2⟩ := h; ⟨A, h1, Kd.C_below h2 hb⟩), (fun w w' v hb h => Kd.R_below h hb), (fun w w' v hb h => Kd.R_below h hb), trivial⟩
  case r1_1o0 =>
    intro vs w hb hV
    rw [if_pos (by kernel_rfl)]
    generalize hρ : rho _ _ _ vs = ρ
    have e1 : ρ (.tmp 1) = .pointer (some ⟨gs, 0, none⟩) := by rw [← hρ]; kernel_rfl
    clear hρ hV
    refine runs_val (v := .pointer (some ⟨gs, 0, none⟩)) (w' := w) ?_ ⟨Below.refl _ _, rfl⟩
    go_simp <;> (first | exact IntWalk.u64_in _ (by omega) | exact IntWalk.u32_in _ (by omega) | exact IntWalk.u16_in _ (by omega) | exact IntWalk.u8_in _ (by omega) | exact IntWalk.i64_in _ (by omega) | skip)
  case r1_1o1 =>
    intro vs w hb hV
    rw [if_pos (by kernel_rfl)]
    generalize hρ : rho _ _ _ vs = ρ
    have d3 : (vs 0) = .pointer (some ⟨gs, 0, none⟩) := hV 0 (by kernel_rfl)
    have e3 : ρ (.tmp 3) = vs 0 := by rw [← hρ]; kernel_rfl
    rw [d3] at e3; clear d3
    clear hρ hV
    have c0 := pw_cell_below hb (blk_cell G0.out 0)
    refine runs_val (v := .int .i32 a) (w' := w) ?_ ⟨Below.refl _ _, rfl⟩
    go_simp
  case r1_1o2 =>
    intro vs w hb hV
    rw [if_pos (by kernel_rfl)]
    generalize hρ : rho _ _ _ vs = ρ
    have d4 : (vs 1) = .int .i32 a := hV 1 (by kernel_rfl)
    have e4 : ρ (.tmp 4) = vs 1 := by rw [← hρ]; kernel_rfl
    rw [d4] at e4; clear d4
    clear hρ hV
    refine runs_val (v := .int .u32 x) (w' := w) ?_ ⟨Below.refl _ _, rfl⟩
    go_simp
    rw [IntKind.wrap_u32']; exact HX.out
  case r1_1o3 =>
    intro vs w hb hV
    rw [if_pos (by kernel_rfl)]
    generalize hρ : rho _ _ _ vs = ρ
    have d5 : (vs 2) = .int .u32 x := hV 2 (by kernel_rfl)
    have e5 : ρ (.tmp 5) = vs 2 := by rw [← hρ]; kernel_rfl
    rw [d5] at e5; clear d5
    clear hρ hV
    refine runs_val (v := .int .u64 x) (w' := w) ?_ ⟨Below.refl _ _, rfl⟩
    go_simp
    exact IntWalk.u64_in _ (by have := HZL.out; omega)
  case r1_1o4 =>
    intro vs w hb hV
    rw [if_pos (by kernel_rfl)]
    generalize hρ : rho _ _ _ vs = ρ
    have d6 : (vs 3) = .int .u64 x := hV 3 (by kernel_rfl)
    have e6 : ρ (.tmp 6) = vs 3 := by rw [← hρ]; kernel_rfl
    rw [d6] at e6; clear d6
    have ef48 : ρ (.func 48) = .func (.func 48) #[] #[] := by rw [← hρ]; rfl
    have econ : ∀ v : Value, ρ (.const v) = v := fun v => by rw [← hρ]; rfl
    clear hρ hV
    refine runs_call (f := 48) (args := #[.int .u64 x, .int .i64 4]) (w' := w) ?_ ?_
    · go_simp
    · refine (low_any x 4 w HZL.out.1 (by omega)).mono ?_
      rintro e w5 ⟨v, rfl, hv, hb5⟩
      obtain ⟨A1, c1, e1, e2, e3⟩ := Kd.R_reads hv
      rw [lowN_length] at e1 e2 e3
      exact ⟨_, rfl, hb5, A1, c1, e1, e2, e3⟩
  case r1_1o5 =>
    intro vs w hb hV
    rw [if_pos (by kernel_rfl)]
    generalize hρ : rho _ _ _ vs = ρ
    have e1 : ρ (.tmp 1) = .pointer (some ⟨gs, 0, none⟩) := by rw [← hρ]; kernel_rfl
    clear hρ hV
    refine runs_val (v := .pointer (some ⟨gs, 1, none⟩)) (w' := w) ?_ ⟨Below.refl _ _, rfl⟩
    go_simp <;> (first | exact IntWalk.u64_in _ (by omega) | exact IntWalk.u32_in _ (by omega) | exact IntWalk.u16_in _ (by omega) | exact IntWalk.u8_in _ (by omega) | exact IntWalk.i64_in _ (by omega) | skip)
  case r1_1o6 =>
    intro vs w hb hV
    rw [if_pos (by kernel_rfl)]
    generalize hρ : rho _ _ _ vs = ρ
    have d8 : (vs 5) = .pointer (some ⟨gs, 1, none⟩) := hV 5 (by kernel_rfl)
    have e8 : ρ (.tmp 8) = vs 5 := by rw [← hρ]; kernel_rfl
    rw [d8] at e8; clear d8
    clear hρ hV
    have c0 := pw_cell_below hb (blk_cell G0.out 1)
    refine runs_val (v := .int .u32 b) (w' := w) ?_ ⟨Below.refl _ _, rfl⟩
    go_simp
  case r1_1o7 =>
    intro vs w hb hV
    rw [if_pos (by kernel_rfl)]
    generalize hρ : rho _ _ _ vs = ρ
    have d9 : (vs 6) = .int .u32 b := hV 6 (by kernel_rfl)
    have e9 : ρ (.tmp 9) = vs 6 := by rw [← hρ]; kernel_rfl
    rw [d9] at e9; clear d9
    clear hρ hV
    refine runs_val (v := .int .u64 y) (w' := w) ?_ ⟨Below.refl _ _, rfl⟩
    go_simp
    exact HY.out
  case r1_1o8 =>
    intro vs w hb hV
    rw [if_pos (by kernel_rfl)]
    generalize hρ : rho _ _ _ vs = ρ
    have d10 : (vs 7) = .int .u64 y := hV 7 (by kernel_rfl)
    have e10 : ρ (.tmp 10) = vs 7 := by rw [← hρ]; kernel_rfl
    rw [d10] at e10; clear d10
    have ef48 : ρ (.func 48) = .func (.func 48) #[] #[] := by rw [← hρ]; rfl
    have econ : ∀ v : Value, ρ (.const v) = v := fun v => by rw [← hρ]; rfl
    clear hρ hV
    refine runs_call (f := 48) (args := #[.int .u64 y, .int .i64 4]) (w' := w) ?_ ?_
    · go_simp
    · refine (low_any y 4 w HZL.out.2 (by omega)).mono ?_
      rintro e w5 ⟨v, rfl, hv, hb5⟩
      obtain ⟨A1, c1, e1, e2, e3⟩ := Kd.R_reads hv
      rw [lowN_length] at e1 e2 e3
      exact ⟨_, rfl, hb5, A1, c1, e1, e2, e3⟩
  case r1_1o9 =>
    intro vs w hb hV
    rw [if_pos (by kernel_rfl)]
    generalize hρ : rho _ _ _ vs = ρ
    have d7 : (fun (w : World) (v : Value) => ∃ A c, v = .slice A 4 c ∧ 4 ≤ c ∧ (Kd.int .u8).C w A 4 (lowN x 4)) w (vs 4) := hV 4 (by kernel_rfl)
    have e7 : ρ (.tmp 7) = vs 4 := by rw [← hρ]; kernel_rfl
    obtain ⟨A1, c1, h1, hc1, hC1⟩ := d7
    have d11 : (fun (w : World) (v : Value) => ∃ A c, v = .slice A 4 c ∧ 4 ≤ c ∧ (Kd.int .u8).C w A 4 (lowN y 4)) w (vs 8) := hV 8 (by kernel_rfl)
    have e11 : ρ (.tmp 11) = vs 8 := by rw [← hρ]; kernel_rfl
    obtain ⟨A2, c2, h2, hc2, hC2⟩ := d11
    clear hρ hV
    rw [h1] at e7
    rw [h2] at e11
    refine runs_val (v := .slice (some ⟨w.heap.size, 0, none⟩) 2 2) (w' := w.alloc (.cells #[.slice A1 4 c1, .slice A2 4 c2] 23)) ?_ ⟨below_alloc (Below.refl _ _) _, _, rfl, C_of_two (heap_alloc_new _ _) (Kd.C_alloc hC1 _) hc1 (Kd.C_alloc hC2 _) hc2⟩
    go_simp
  case r1_1o10 =>
    intro vs w hb hV
    rw [if_pos (by kernel_rfl)]
    generalize hρ : rho _ _ _ vs = ρ
    have d12 : (fun (w : World) (v : Value) => ∃ A, v = .slice A 2 2 ∧ (Kd.slice 5 (Kd.int .u8)).C w A 2 [lowN x 4, lowN y 4]) w (vs 9) := hV 9 (by kernel_rfl)
    have e12 : ρ (.tmp 12) = vs 9 := by rw [← hρ]; kernel_rfl
    obtain ⟨A3, h3, hC3⟩ := d12
    have ef21 : ρ (.func 21) = .func (.func 21) #[] #[] := by rw [← hρ]; rfl
    clear hρ hV
    rw [h3] at e12
    refine runs_call (f := 21) (args := #[.slice A3 2 2]) (w' := w) ?_ ?_
    · go_simp
    · refine (join_any A3 2 2 _ w hC3 (by omega) (by simp [lowN_length])).mono ?_
      rintro e w5 ⟨v, rfl, hv, hb5⟩
      refine ⟨_, rfl, hb5, Kd.R_lower ?_ hb.size⟩
      have he : [lowN x 4, lowN y 4].flatten = cellN x y := by simp [cellN]
      rw [he] at hv
      exact hv
  case r1_1o11 =>
    intro vs w hb hV
    rw [if_pos (by kernel_rfl)]
    generalize hρ : rho _ _ _ vs = ρ
    have d13 : (fun (w : World) (v : Value) => (Kd.int .u8).R 5 w W.heap.size (fun _ => True) v (cellN x y)) w (vs 10) := hV 10 (by kernel_rfl)
    have e13 : ρ (.tmp 13) = vs 10 := by rw [← hρ]; kernel_rfl
    clear hρ hV
    refine runs_val (v := vs 10) (w' := w) ?_ ⟨Below.refl _ _, d13⟩
    go_simp
  case r1_1e =>
    intro vs V2 hb2 hV
    have d3 : (vs 0) = .pointer (some ⟨gs, 0, none⟩) := hV 0 (Nat.le_of_ble_eq_true rfl)
    have d4 : (vs 1) = .int .i32 a := hV 1 (Nat.le_of_ble_eq_true rfl)
    have d5 : (vs 2) = .int .u32 x := hV 2 (Nat.le_of_ble_eq_true rfl)
    have d6 : (vs 3) = .int .u64 x := hV 3 (Nat.le_of_ble_eq_true rfl)
    have d7 : (fun (w : World) (v : Value) => ∃ A c, v = .slice A 4 c ∧ 4 ≤ c ∧ (Kd.int .u8).C w A 4 (lowN x 4)) V2 (vs 4) := hV 4 (Nat.le_of_ble_eq_true rfl)
    have d8 : (vs 5) = .pointer (some ⟨gs, 1, none⟩) := hV 5 (Nat.le_of_ble_eq_true rfl)
    have d9 : (vs 6) = .int .u32 b := hV 6 (Nat.le_of_ble_eq_true rfl)
    have d10 : (vs 7) = .int .u64 y := hV 7 (Nat.le_of_ble_eq_true rfl)
    have d11 : (fun (w : World) (v : Value) => ∃ A c, v = .slice A 4 c ∧ 4 ≤ c ∧ (Kd.int .u8).C w A 4 (lowN y 4)) V2 (vs 8) := hV 8 (Nat.le_of_ble_eq_true rfl)
    have d12 : (fun (w : World) (v : Value) => ∃ A, v = .slice A 2 2 ∧ (Kd.slice 5 (Kd.int .u8)).C w A 2 [lowN x 4, lowN y 4]) V2 (vs 9) := hV 9 (Nat.le_of_ble_eq_true rfl)
    have d13 : (fun (w : World) (v : Value) => (Kd.int .u8).R 5 w W.heap.size (fun _ => True) v (cellN x y)) V2 (vs 10) := hV 10 (Nat.le_of_ble_eq_true rfl)
    have d2 : (fun (w : World) (v : Value) => (Kd.int .u8).R 5 w W.heap.size (fun _ => True) v (cellN x y)) V2 (vs 11) := hV 11 (Nat.le_of_ble_eq_true rfl)
    clear hV
    simp only [putAll]
    rw [d3, d4, d5, d6, d8, d9, d10]
    clear d3 d4 d5 d6 d8 d9 d10
    generalize vs 4 = v7 at *
    generalize vs 8 = v11 at *
    generalize vs 9 = v12 at *
    generalize vs 10 = v13 at *
    generalize vs 11 = v2 at *
    clear vs
    simp only [Act.put, List.setIfInBounds_toArray, List.set_cons_zero, List.set_cons_succ]
    clear d7 d11 d12 d13
    go_wp2_with fail
    go_ret
    rw [HGS.out]
    exact ⟨_, rfl, Kd.R_lower d2 HLE.out, HAL.out.trans (hb2.mono HLE.out)⟩
end Go.Proofs.Yticpjidcgaaldaa

namespace Go.Proofs.Yticpjidcgaaldaa
open Go.RowKit Go.Proofs.YticpjidcgaaldaaW.PrintWords Go.Proofs.YticpjidcgaaldaaW.PrintLast Go.Proofs.YticpjidcgaaldaaW.PrintMore
attribute [local go_sem] max2_int min2_int max_two min_two max_three min_three max_four min_four   -- for this text's walks alone
set_option linter.unusedVariables false
set_option linter.unusedSimpArgs false

end Go.Proofs.Yticpjidcgaaldaa

namespace Go.Proofs.Yticpjidcgaaldaa
open Go.RowKit Go.Proofs.YticpjidcgaaldaaW.PrintWords Go.Proofs.YticpjidcgaaldaaW.PrintLast Go.Proofs.YticpjidcgaaldaaW.PrintMore
set_option linter.unusedVariables false
set_option linter.unusedSimpArgs false

def steps (s : Nat) (l : List Int) : Nat := l.foldl (fun s b => stepN s b.toNat) s
end Go.Proofs.Yticpjidcgaaldaa

namespace Go.Proofs.Yticpjidcgaaldaa
open Go.RowKit
set_option linter.unusedVariables false
end Go.Proofs.Yticpjidcgaaldaa

namespace Go.Proofs.Yticpjidcgaaldaa
open Go.RowKit Go.Proofs.YticpjidcgaaldaaW.PrintWords Go.Proofs.YticpjidcgaaldaaW.PrintLast Go.Proofs.YticpjidcgaaldaaW.PrintMore
set_option linter.unusedVariables false
set_option linter.unusedSimpArgs false

end Go.Proofs.Yticpjidcgaaldaa

namespace Go.Proofs.Yticpjidcgaaldaa
open Go.RowKit Go.Proofs.YticpjidcgaaldaaW.PrintWords Go.Proofs.YticpjidcgaaldaaW.PrintLast Go.Proofs.YticpjidcgaaldaaW.PrintMore
set_option linter.unusedVariables false
set_option linter.unusedSimpArgs false

def toR (x : S59) : S97 := ⟨x.f0, x.f1⟩
theorem rdT25_get {L : List S59} {j : Nat} (h : j < L.length) : rd_T59 L (j : Int) = L[j] := by
  unfold rd_T59; rw [List.getD_eq_getElem?_getD, Int.toNat_natCast, List.getElem?_eq_getElem h]; rfl
theorem rdT52_get {L : List S97} {j : Nat} (h : j < L.length) : rd_T97 L (j : Int) = L[j] := by
  unfold rd_T97; rw [List.getD_eq_getElem?_getD, Int.toNat_natCast, List.getElem?_eq_getElem h]; rfl
theorem eqCellR (d : Nat) (w : World) (x0 y0 : Int) (x1 y1 : Int) :
    (Op.equalIn (d + 2) 97 (.agg #[.int .i32 x0, .int .u32 x1]) (.agg #[.int .i32 y0, .int .u32 y1])).run Try.prog w = .ok (x0 == y0 && (x1 == y1)) w := by
  refine eqA_of Try.underlying97 (by kernel_rfl) ?_
  refine eqf_cons (by rfl) (by go_simp; rfl) (by go_simp; rfl) (by go_simp) ?_
  exact eqf_last (by rfl) (by go_simp; rfl) (by go_simp; rfl) (by go_simp)
theorem cellR_neq (a b c d : Int) (w : World) : (binOp .neq 97 (.agg #[.int .i32 a, .int .u32 b]) (.agg #[.int .i32 c, .int .u32 d])).run Try.prog w = .ok (.bool (!(a == c && (b == d)))) w := by
  rw [run_neq_struct, eqCellR 9998]; rfl
theorem cellR_guard (op : BinOp) (x y : Operand) (xs ys : Array Value) (w : World) : (eqGuard op 97 x y (.agg xs) (.agg ys)).run Try.prog w = .ok () w := run_eqGuard_agg w op _ x y xs ys (by kernel_rfl)
def sameL : List S97 → List S97 → Bool
  | [], [] => true
  | x :: xs, y :: ys => (x.f0 == y.f0 && x.f1 == y.f1) && sameL xs ys
  | _, _ => false
theorem S97_eq {a b : S97} : (a.f0 == b.f0 && a.f1 == b.f1) = true ↔ a = b := by
  cases a; cases b; simp
theorem sameL_iff : ∀ x y : List S97, sameL x y = true ↔ x = y
  | [], [] => by simp [sameL]
  | x :: xs, y :: ys => by rw [sameL, Bool.and_eq_true, S97_eq, sameL_iff xs ys, List.cons.injEq]
  | [], y :: ys => by simp [sameL]
  | x :: xs, [] => by simp [sameL]
theorem sameL_ne {x y : List S97} (h : x ≠ y) : sameL x y = false := by
  cases e : sameL x y with
  | true => exact absurd ((sameL_iff x y).1 e) h
  | false => rfl
theorem cell_at52 {w : World} {A : Option Addr} {n : Nat} {x : List S97} (h : k97.C w A n x) {j : Nat} (hj : j < x.length) : ∃ ad, A = some ad ∧ w.cell? (ad.add (j * 2)) = some (.int .i32 x[j].f0) ∧ w.cell? ⟨(ad.add (j * 2)).block, (ad.add (j * 2)).off + 1, none⟩ = some (.int .u32 x[j].f1) := by
  have := at_T97 h (j : Int) (by omega) (by have := h.1; omega)
  rw [rdT52_get hj, Int.toNat_natCast] at this
  exact this
set_option maxRecDepth 100000 in
set_option maxHeartbeats 4000000 in
theorem csame_any (A B : Option Addr) (n m c d : Nat) (x y : List S97) (w : World) (hx : k97.C w A n x) (hy : k97.C w B m y) (hn : n ≤ 1000000) (hm : m ≤ 1000000) :
    Calls Try.prog 53 #[.slice A n c, .slice B m d] w fun e w' => e = .returned (.bool (sameL x y)) ∧ Drawn0 w w' := by
  have hlx := hx.1
  have hly := hy.1
  by_cases hnm : n = m
  · subst hnm
    have HX := Aside0.mk hx
    have HY := Aside0.mk hy
    have HL := Aside0.mk (And.intro hlx hly)
    have d0 : ((n : Int) != n) = false := by simp
    clear hx hy hlx hly
    go_enter Try.func53, Try.ntmps53
    go_wp2_with fail
    go_loopw [13] (fun v13 wr => ∃ i : Nat, i ≤ n ∧ v13 = .int .i64 i ∧ Aside0 (x.take i = y.take i ∧ Drawn0 w wr)) (fun v13 _ => n - (intOf v13).toNat)
    case atStart => exact ⟨0, by omega, rfl, ⟨by simp, Drawn0.refl w⟩⟩
    case round =>
      obtain ⟨i, hi, rfl, H⟩ := hrel
      by_cases hlt : i < n
      · have d1 : decide (i < n) = true := decide_eq_true hlt
        have hix : i < x.length := by have := HL.out; omega
        have hiy : i < y.length := by have := HL.out; omega
        obtain ⟨n0, hw⟩ := H.out.2
        subst hw
        obtain ⟨ax, rfl, x0, x1⟩ := cell_at52 HX.out hix
        obtain ⟨ay, rfl, y0, y1⟩ := cell_at52 HY.out hiy
        have hcn := cellR_neq x[i].f0 x[i].f1 y[i].f0 y[i].f1
        have hcg := cellR_guard
        have HE := Aside0.mk (S97_eq (a := x[i]) (b := y[i]))
        have HT := Aside0.mk (And.intro (take_snoc hix) (take_snoc hiy))
        cases hq : (x[i].f0 == y[i].f0 && x[i].f1 == y[i].f1) with
        | true =>
          rw [hq] at hcn HE
          have H2 := Aside0.mk (HE.out.1 rfl)
          generalize x[i].f0 = x0v at *
          generalize x[i].f1 = x1v at *
          generalize y[i].f0 = y0v at *
          generalize y[i].f1 = y1v at *
          rw [Bool.not_true] at hcn
          clear hq HE
          go_wp2_with fail
          go_region
          go_wp2_with fail
          go_roundw
          case rel => exact ⟨i + 1, by omega, by go_num, ⟨by rw [HT.out.1, HT.out.2, H.out.1, H2.out], ⟨⟨n0 + 1, rfl⟩⟩⟩⟩
          case measure => simp [intOf]; omega
        | false =>
          rw [hq] at hcn HE
          have H2 : Aside0 (sameL x y = false) := ⟨sameL_ne (fun e => by
            have h3 := HE.out.2 (by subst e; rfl)
            cases h3)⟩
          generalize x[i].f0 = x0v at *
          generalize x[i].f1 = x1v at *
          generalize y[i].f0 = y0v at *
          generalize y[i].f1 = y1v at *
          rw [Bool.not_false] at hcn
          clear hq HE
          go_wp2_with fail
          go_region
          go_wp2_with fail
          go_ret
          exact ⟨by rw [H2.out]; rfl, ⟨⟨n0 + 1, rfl⟩⟩⟩
      · obtain rfl : i = n := by omega
        have d1 : decide (i < i) = false := decide_eq_false (by omega)
        have H2 : Aside0 (sameL x y = true) := ⟨(sameL_iff x y).2 (by have := H.out.1; rwa [List.take_of_length_le (by have := HL.out; omega), List.take_of_length_le (by have := HL.out; omega)] at this)⟩
        go_wp2_with fail
        go_ret
        exact ⟨by rw [H2.out]; rfl, H.out.2⟩
  · have H2 : Aside0 (sameL x y = false) := ⟨sameL_ne (fun e => hnm (by rw [← hlx, ← hly, e]))⟩
    have d0 : ((n : Int) != m) = true := by simp; omega
    clear hx hy hlx hly
    go_enter Try.func53, Try.ntmps53
    go_wp2_with fail
    go_ret
    exact ⟨by rw [H2.out]; rfl, Drawn0.refl w⟩
end Go.Proofs.Yticpjidcgaaldaa

namespace Go.Proofs.Yticpjidcgaaldaa
open Go.RowKit Go.Proofs.YticpjidcgaaldaaW.PrintWords Go.Proofs.YticpjidcgaaldaaW.PrintLast Go.Proofs.YticpjidcgaaldaaW.PrintMore
set_option linter.unusedVariables false
set_option linter.unusedSimpArgs false

theorem OkC.i32 {x : S59} (h : OkC x) : -2147483648 ≤ x.f0 ∧ x.f0 ≤ 2147483647 := by have := bounds_i32 h.1; omega
theorem OkC.u32 {x : S59} (h : OkC x) : U32 x.f1 := by have := bounds_u32 h.2; unfold U32; omega
end Go.Proofs.Yticpjidcgaaldaa

namespace Go.Proofs.Yticpjidcgaaldaa
open Go.RowKit Go.Proofs.YticpjidcgaaldaaW.PrintWords Go.Proofs.YticpjidcgaaldaaW.PrintLast Go.Proofs.YticpjidcgaaldaaW.PrintMore
set_option linter.unusedVariables false
set_option linter.unusedSimpArgs false

theorem cell_at25 {w : World} {A : Option Addr} {n : Nat} {x : List S59} (h : k59.C w A n x) {j : Nat} (hj : j < x.length) : ∃ ad, A = some ad ∧ w.cell? (ad.add (j * 2)) = some (.int .i32 x[j].f0) ∧ w.cell? ⟨(ad.add (j * 2)).block, (ad.add (j * 2)).off + 1, none⟩ = some (.int .u32 x[j].f1) := by
  have := at_T59 h (j : Int) (by omega) (by have := h.1; omega)
  rw [rdT25_get hj, Int.toNat_natCast] at this
  exact this
end Go.Proofs.Yticpjidcgaaldaa

namespace Go.Proofs.Yticpjidcgaaldaa
open Go.RowKit Go.Proofs.YticpjidcgaaldaaW.PrintWords Go.Proofs.YticpjidcgaaldaaW.PrintLast Go.Proofs.YticpjidcgaaldaaW.PrintMore
set_option linter.unusedVariables false
set_option linter.unusedSimpArgs false

end Go.Proofs.Yticpjidcgaaldaa

namespace Go.Proofs.Yticpjidcgaaldaa
open Go.RowKit Go.Proofs.YticpjidcgaaldaaW.PrintWords Go.Proofs.YticpjidcgaaldaaW.PrintLast Go.Proofs.YticpjidcgaaldaaW.PrintMore
set_option linter.unusedVariables false
set_option linter.unusedSimpArgs false

theorem C_one_cell2 {w : World} {g : Nat} {x : S59} (h : w.heap[g]? = some (.cells #[.int .i32 x.f0, .int .u32 x.f1] 59 (0, 0))) : ReadsRow (fun (y : S59) cs => cs = [.int .i32 y.f0, .int .u32 y.f1]) 2 w (some ⟨g, 0, none⟩) 1 [x] := by
  have h1 := C_one_cell h
  refine ⟨h1.1, h1.2.1, fun hn => ?_⟩
  obtain ⟨ad, e, hj⟩ := h1.2.2 hn
  refine ⟨ad, e, fun j p hp => ?_⟩
  obtain ⟨cs, a, b, c⟩ := hj j p hp
  exact ⟨cs, a, k59_open b, c⟩
theorem delta_info (a b c d : Value) : (Try.prog.info? 26).map (·.size) = some (#[a, b, c, d] : Array Value).size := by kernel_rfl

end Go.Proofs.Yticpjidcgaaldaa

namespace Go.Proofs.Yticpjidcgaaldaa
open Go.RowKit Go.Proofs.YticpjidcgaaldaaW.PrintWords Go.Proofs.YticpjidcgaaldaaW.PrintLast Go.Proofs.YticpjidcgaaldaaW.PrintMore
set_option linter.unusedVariables false

structure Inv5 (ops : Array Oper) (a0 : Act) (I : (Nat → Bool) → (Nat → Value) → World → Prop) (L : Nat → Bool) (vs : Nat → Value) (a : Act) (w : World) : Prop where
  defers : a.defers = a0.defers
  size : a.tmps.size = a0.tmps.size
  slot : ∀ s, a.tmps.getD s undef = look ops a0 L vs s
  closed : ∀ i o, ops[i]? = some o → L i = true → ∀ j, depOn o j = true → L j = true
  inv : I L vs w
section
variable {P : Program} {ops : Array Oper} {Q : Exit → Act → World → Prop} {a0 : Act} {I : (Nat → Bool) → (Nat → Value) → World → Prop} {yv : Nat → Option Bool}
variable (hok : regionOk ops a0.tmps.size = true)
  (hyv : ∀ (i : Nat) (o : Oper) (j : Nat) (b : Bool), ops[i]? = some o → o.guard = some (j, b) → ∀ L vs w, I L vs w → L j = true → boolOf (vs j) = yv j)
  (hop : ∀ i o, ops[i]? = some o → ∀ (L : Nat → Bool) (vs : Nat → Value) w, L i = false → (∀ k o', ops[k]? = some o' → L k = true → ∀ j, depOn o' j = true → L j = true) → (∀ j, depOn o j = true → L j = true) → I L vs w →
    if wants yv o = true then runs P o (rho ops a0 (depOn o) vs) w (fun v w' => I (fun k => if k = i then true else L k) (fun k => if k = i then v else vs k) w') else I (fun k => if k = i then true else L k) (fun k => if k = i then undef else vs k) w)
  (hend : ∀ (L : Nat → Bool) (vs : Nat → Value) w a, (∀ i, i < ops.size → L i = true) → I L vs w → a.defers = a0.defers → a.tmps.size = a0.tmps.size → (∀ s, a.tmps.getD s undef = look ops a0 (fun _ => true) vs s) → Q .normal a w)
include hend in
theorem end_ok5 {listed : Array Bool} {vs : Nat → Value} {a : Act} {w : World} (hall : ∀ i, i < ops.size → listed.getD i false = true) (J : Inv5 ops a0 I (fun i => listed.getD i false) vs a w) : Q .normal a w :=
  hend _ vs w a hall J.inv J.defers J.size (fun s => by rw [J.slot s]; exact look_all hall s)
include hok hyv hop hend in
theorem any_ok5 : ∀ (fuel : Nat) (listed : Array Bool) (vs : Nat → Value) (a : Act) (w : World), listed.size = ops.size → ((List.range ops.size).filter (fun i => !listed.getD i false)).length ≤ fuel →
    Inv5 ops a0 I (fun i => listed.getD i false) vs a w → wpAny P .any ops Q fuel listed a w
  | 0, listed, vs, a, w, hs, hc, J => by
    have hall : ∀ i, i < ops.size → listed.getD i false = true := by
      intro i hi
      cases hb : listed.getD i false with
      | true => rfl
      | false =>
        exfalso
        have hm : i ∈ (List.range ops.size).filter (fun i => !listed.getD i false) := List.mem_filter.2 ⟨List.mem_range.2 hi, by simp [hb]⟩
        have := List.length_pos_of_mem hm
        omega
    refine ⟨?_, end_ok5 hend hall J⟩
    rw [List.eq_nil_iff_forall_not_mem]
    intro j hj
    obtain ⟨h1, o, ho, _⟩ := mem_ready.1 hj
    have hjn : j < ops.size := (Array.getElem?_eq_some_iff.1 ho).1
    rw [getD_of_lt (by omega) true false, hall j hjn] at h1
    cases h1
  | fuel + 1, listed, vs, a, w, hs, hc, J => by
    refine ⟨fun hr => end_ok5 hend (all_listed hok hs hr) J, fun i hi => ?_⟩
    obtain ⟨h1, o, ho, hdeps⟩ := mem_ready.1 hi
    have hin : i < ops.size := (Array.getElem?_eq_some_iff.1 ho).1
    have hun : listed.getD i false = false := by rw [getD_of_lt (by omega) false true]; exact h1
    have F := fact_of hok ho
    have hdep : ∀ j, depOn o j = true → listed.getD j false = true := by
      intro j hj
      unfold depOn at hj
      rw [Array.any_eq_true'] at hj
      obtain ⟨e, he, hb⟩ := hj
      simp only [Bool.and_eq_true, beq_iff_eq] at hb
      obtain ⟨hb, rfl⟩ := hb
      exact hdeps e he hb
    -- what it reads
    have hlk : ∀ s, .tmp s ∈ o.op.operands → look ops a0 (fun i => listed.getD i false) vs s = look ops a0 (depOn o) vs s := by
      intro s hso
      unfold look
      rw [find_congr (q := fun k => depOn o k && dstOf ops k == some s)]
      intro k hk
      show (listed.getD k false && dstOf ops k == some s) = (depOn o k && dstOf ops k == some s)
      by_cases hd : dstOf ops k = some s
      · have e1 : listed.getD k false = depOn o k := by
          by_cases hki : k = i
          · subst hki
            rw [hun]
            cases hb : depOn o k with
            | false => rfl
            | true => exact absurd (F.back k hb) (by omega)
          · cases hb : depOn o k with
            | true => exact hdep k hb
            | false =>
              rcases F.reads s hso k hk hki hd with h | ⟨o', ho', h⟩
              · rw [hb] at h; cases h
              · cases hl : listed.getD k false with
                | false => rfl
                | true =>
                  have := J.closed k o' ho' hl i h
                  rw [hun] at this; cases this
        rw [e1]
      · have : (dstOf ops k == some s) = false := by simpa using hd
        rw [this, Bool.and_false, Bool.and_false]
    have hev : execOp a.eval o = execOp (rho ops a0 (depOn o) vs) o := by
      refine execOp_congr o F.sel fun x hx => ?_
      cases x with
      | tmp s =>
        show a.tmps.getD s undef = look ops a0 (depOn o) vs s
        rw [J.slot s]; exact hlk s hx
      | const v => rfl
      | global g => rfl
      | func f => rfl
    -- is it wanted
    have hw : Region.wanted o (yielded ops a.tmps) = wants yv o := by
      unfold Region.wanted wants
      cases hg : o.guard with
      | none => rfl
      | some jb =>
        obtain ⟨j, b⟩ := jb
        obtain ⟨hdj, hds⟩ := F.guard j b hg
        have hjn : j < ops.size := by have := F.back j hdj; omega
        obtain ⟨d, hd⟩ := Option.isSome_iff_exists.1 hds
        have Fj := fact_of hok (Array.getElem?_eq_getElem hjn)
        have hdj' : ops[j].dst = some d := by
          have := hd
          unfold dstOf at this
          rw [Array.getElem?_eq_getElem hjn] at this
          exact this
        have hsl : a.tmps.getD d undef = vs j := by
          rw [J.slot d]
          unfold look
          rw [find_unique (i := j) hjn (by simp only [hdep j hdj, hd, beq_self_eq_true, Bool.and_self]) (fun k hk hp => by
            by_cases e : k = j
            · exact e
            · simp only [Bool.and_eq_true, beq_iff_eq] at hp
              exact absurd hp.2 ((Fj.dst d hdj').2 k hk e))]
        have hdl : d < a.tmps.size := by rw [J.size]; exact (Fj.dst d hdj').1
        have hy : yielded ops a.tmps j = boolOf (vs j) := by
          unfold yielded
          have : (ops[j]?).bind (·.dst) = some d := hd
          rw [this]
          simp only [Option.bind_some]
          have e2 : a.tmps[d]? = some (vs j) := by
            rw [Array.getElem?_eq_getElem hdl]
            have : a.tmps.getD d undef = a.tmps[d] := by simp [Array.getD, hdl]
            rw [← this, hsl]
          rw [e2]
          cases vs j <;> rfl
        show (yielded ops a.tmps j == some b) = (yv j == some b)
        rw [hy, hyv i o j b ho hg _ vs w J.inv (hdep j hdj)]
    have hL : (fun k => (listed.setIfInBounds i true).getD k false) = (fun k => if k = i then true else listed.getD k false) := by
      funext k
      by_cases e : k = i
      · subst e; rw [if_pos rfl]; simp [Array.getD, hs, hin]
      · rw [if_neg e]; exact getD_set_ne false (Ne.symm e)
    have hI : ∀ v w', I (fun k => if k = i then true else listed.getD k false) (fun k => if k = i then v else vs k) w' → Inv5 ops a0 I (fun k => (listed.setIfInBounds i true).getD k false) (fun k => if k = i then v else vs k) (a.put o.dst v) w' := by
      intro v w' hIv
      have hgi : (listed.setIfInBounds i true).getD i false = true := by simp [Array.getD, hs, hin]
      have hgo : ∀ k, k ≠ i → (listed.setIfInBounds i true).getD k false = listed.getD k false := fun k hk => getD_set_ne false (Ne.symm hk)
      refine ⟨by rw [← J.defers]; cases o.dst <;> rfl, by rw [← J.size]; cases o.dst <;> simp [Act.put], fun s => ?_, fun k o' hk hl j hj => ?_, by rw [hL]; exact hIv⟩
      · by_cases hd : o.dst = some s
        · have Fd := F.dst s hd
          have e1 : (a.put o.dst v).tmps.getD s undef = v := by
            rw [hd]; simp [Act.put, Array.getD, J.size, Fd.1]
          rw [e1]
          unfold look
          rw [find_unique (i := i) hin (by simp only [hgi, dstOf, ho, Option.bind_some, hd, beq_self_eq_true, Bool.and_self]) (fun k hk hp => by
            by_cases e : k = i
            · exact e
            · simp only [Bool.and_eq_true, beq_iff_eq] at hp
              exact absurd hp.2 (Fd.2 k hk e))]
          simp
        · have e1 : (a.put o.dst v).tmps.getD s undef = a.tmps.getD s undef := by
            cases hdo : o.dst with
            | none => rfl
            | some d =>
              have hne : d ≠ s := fun e => hd (by rw [hdo, e])
              have := Act.eval_put (a := a) (dst := some d) (v := v) (x := .tmp s) (fun d' hd' => by cases hd'; intro e; cases e; exact hne rfl)
              exact this
          rw [e1, J.slot s]
          unfold look
          rw [find_congr (p := fun k => (listed.setIfInBounds i true).getD k false && dstOf ops k == some s) (q := fun k => listed.getD k false && dstOf ops k == some s) (fun k hk => by
            by_cases e : k = i
            · subst e
              have : (dstOf ops k == some s) = false := by simp only [dstOf, ho, Option.bind_some, beq_eq_false_iff_ne]; exact hd
              rw [this, Bool.and_false, Bool.and_false]
            · rw [hgo k e])]
          cases hf : (List.range ops.size).find? (fun k => listed.getD k false && dstOf ops k == some s) with
          | none => rfl
          | some k =>
            have hp := List.find?_some hf
            simp only [Bool.and_eq_true] at hp
            have : k ≠ i := fun e => by rw [e, hun] at hp; exact absurd hp.1 (by simp)
            simp [this]
      · by_cases e : k = i
        · subst e
          have : o' = o := by rw [ho] at hk; exact (Option.some.inj hk).symm
          subst this
          have hlj := hdep j hj
          by_cases ej : j = k
          · rw [ej]; exact hgi
          · rw [hgo j ej]; exact hlj
        · have h2 := J.closed k o' hk (by rw [← hgo k e]; exact hl) j hj
          by_cases ej : j = i
          · rw [ej]; exact hgi
          · rw [hgo j ej]; exact h2
    have hc' : ((List.range ops.size).filter (fun k => !(listed.setIfInBounds i true).getD k false)).length ≤ fuel := by
      have := count_lt (l := List.range ops.size) (x := i) (p := fun k => !listed.getD k false) (q := fun k => !(listed.setIfInBounds i true).getD k false) (List.mem_range.2 hin) (by simp [hun]) (by simp [Array.getD, hs, hin]) (fun k hk => by
        by_cases e : k = i
        · subst e; simp [hun]
        · rw [getD_set_ne false (Ne.symm e)] at hk; exact hk)
      omega
    have hgo := hop i o ho _ vs w hun (fun k o' hk hl => J.closed k o' hk hl) hdep J.inv
    unfold wpOp
    simp only [ho]
    rw [hw]
    by_cases hwt : wants yv o = true
    · rw [if_pos hwt] at hgo ⊢
      refine .inl (runs_wp hev ?_)
      have mono : ∀ {R R' : Value → World → Prop}, (∀ v w', R v w' → R' v w') → runs P o (rho ops a0 (depOn o) vs) w R → runs P o (rho ops a0 (depOn o) vs) w R' := by
        intro R R' hR h
        unfold runs at *
        split at h <;> first | exact hR _ _ h | exact Calls.mono h (fun e w'' ⟨v, he, hk⟩ => ⟨v, he, hR _ _ hk⟩) | exact h.elim
      exact mono (fun v w' h1 => any_ok5 fuel _ _ _ _ (by simp [hs]) hc' (hI v w' h1)) hgo
    · rw [if_neg hwt] at hgo ⊢
      exact any_ok5 fuel _ _ _ _ (by simp [hs]) hc' (hI undef w hgo)

theorem region_inv {id : Nat} {w : World} (I : (Nat → Bool) → (Nat → Value) → World → Prop) (yv : Nat → Option Bool) (D : List (Nat × Option Tmp)) (hm : P.follows .mixedOrders = true)
    (hok : regionOk ops a0.tmps.size = true) (hD : (List.range ops.size).map (fun i => (i, dstOf ops i)) = D)
    (hyv : ∀ (i : Nat) (o : Oper) (j : Nat) (b : Bool), ops[i]? = some o → o.guard = some (j, b) → ∀ L vs w, I L vs w → L j = true → boolOf (vs j) = yv j)
    (h0 : I (fun _ => false) (fun _ => undef) w.drew)
    (hop : ∀ i o, ops[i]? = some o → ∀ (L : Nat → Bool) (vs : Nat → Value) w, L i = false → (∀ k o', ops[k]? = some o' → L k = true → ∀ j, depOn o' j = true → L j = true) → (∀ j, depOn o j = true → L j = true) → I L vs w →
      if wants yv o = true then runs P o (rho ops a0 (depOn o) vs) w (fun v w' => I (fun k => if k = i then true else L k) (fun k => if k = i then v else vs k) w') else I (fun k => if k = i then true else L k) (fun k => if k = i then undef else vs k) w)
    (hend : ∀ (L : Nat → Bool) (vs : Nat → Value) w, (∀ i, i < ops.size → L i = true) → I L vs w → Q .normal (putAll vs D a0) w) : (Code.region id ops true).wp P Q a0 w :=
  wp_region_any hm (any_ok5 hok hyv hop (fun L vs w a hall hI h1 h2 h3 => by rw [frame_is hok hD h1 h2 h3]; exact hend L vs w hall hI) ops.size (Array.replicate ops.size false) (fun _ => undef) a0 _ (by simp)
    (Nat.le_trans (List.length_filter_le _ _) (by simp)) ⟨rfl, rfl, fun s => by
      unfold look
      have : (List.range ops.size).find? (fun i => (Array.replicate ops.size false).getD i false && dstOf ops i == some s) = none := by
        rw [List.find?_eq_none]
        intro k hk hc
        have hk := List.mem_range.1 hk
        simp [Array.getD, hk] at hc
      rw [this], fun i o ho hl => by
        have hi : i < ops.size := (Array.getElem?_eq_some_iff.1 ho).1
        simp [Array.getD, hi] at hl, by
      have : (fun i => (Array.replicate ops.size false).getD i false) = (fun _ : Nat => false) := by
        funext i
        by_cases hi : i < ops.size <;> simp [Array.getD, hi]
      rw [this]; exact h0⟩)
end

def chainOk (ops : Array Oper) (ch : List Nat) : Bool :=
  (List.range ch.length).all fun t => match ch[t]? with
    | none => false
    | some k => decide (k < ops.size) && (match ch[t + 1]? with | none => true | some k' => match ops[k']? with | some o' => depOn o' k | none => false) && (List.range ch.length).all (fun s => s == t || ch[s]? != some k)
abbrev Vat (Vl : List (World → Value → Prop)) (i : Nat) : World → Value → Prop := Vl.getD i (fun _ _ => True)
def StabS (ch : List Nat) (T : Nat → World → World → Prop) (i : Nat) (p : World → Value → Prop) : Prop :=
  (∀ w w' v, Below w.heap.size w w' → p w v → p w' v) ∧ ∀ k, k ∈ ch → k ≠ i → ∀ w w' v, T k w w' → p w v → p w' v
def StabSAll (ch : List Nat) (T : Nat → World → World → Prop) : Nat → List (World → Value → Prop) → Prop
  | _, [] => True
  | i, p :: l => StabS ch T i p ∧ StabSAll ch T (i + 1) l
theorem StabS.const (ch : List Nat) (T : Nat → World → World → Prop) (i : Nat) (p : Value → Prop) : StabS ch T i (fun _ v => p v) := ⟨fun _ _ _ _ h => h, fun _ _ _ _ _ _ _ h => h⟩
theorem StabSAll.at_ {ch : List Nat} {T : Nat → World → World → Prop} : ∀ (l : List (World → Value → Prop)) (k i : Nat), StabSAll ch T k l → StabS ch T (k + i) (Vat l i)
  | [], k, i, _ => by
    have : Vat [] i = fun _ _ => True := by simp [Vat]
    rw [this]; exact StabS.const _ _ _ _
  | x :: l, k, 0, h => h.1
  | x :: l, k, i + 1, h => by
    have := StabSAll.at_ l (k + 1) i h.2
    rw [show k + 1 + i = k + (i + 1) by omega] at this
    unfold Vat at this ⊢
    rw [List.getD_cons_succ]; exact this
section
variable (P : Program) (ops : Array Oper) (a0 : Act) (yv : Nat → Option Bool) (C : World → Prop) (ch : List Nat) (S : Nat → List Value → World → Prop) (T : Nat → World → World → Prop) (Vl : List (World → Value → Prop))
def HopS (i : Nat) (o : Oper) : Prop :=
  match ch.idxOf? i with
  | some t => ∀ (vs : Nat → Value) w, C w → S t ((ch.take t).map vs) w → (∀ j, depOn o j = true → Vat Vl j w (vs j)) →
      if wants yv o = true then runs P o (rho ops a0 (depOn o) vs) w (fun v w' => C w' ∧ T i w w' ∧ Vat Vl i w' v ∧ S (t + 1) ((ch.take t).map vs ++ [v]) w') else Vat Vl i w undef ∧ S (t + 1) ((ch.take t).map vs ++ [undef]) w
  | none => ∀ (vs : Nat → Value) w t, C w → (∀ (s k : Nat) (o' : Oper), s < t → ch[s]? = some k → ops[k]? = some o' → depOn o' i = false) → (∀ (s k : Nat), ch[s]? = some k → depOn o k = true → s < t) → S t ((ch.take t).map vs) w → (∀ j, depOn o j = true → Vat Vl j w (vs j)) →
      if wants yv o = true then runs P o (rho ops a0 (depOn o) vs) w (fun v w' => Below w.heap.size w w' ∧ Vat Vl i w' v) else Vat Vl i w undef
def HopSAll : Nat → List Oper → Prop
  | _, [] => True
  | i, o :: l => HopS P ops a0 yv C ch S T Vl i o ∧ HopSAll (i + 1) l
end
theorem HopSAll.at_ {P : Program} {ops : Array Oper} {a0 : Act} {yv : Nat → Option Bool} {C : World → Prop} {ch : List Nat} {S : Nat → List Value → World → Prop} {T : Nat → World → World → Prop} {Vl : List (World → Value → Prop)} : ∀ (l : List Oper) (k i : Nat) (o : Oper), HopSAll P ops a0 yv C ch S T Vl k l → l[i]? = some o → HopS P ops a0 yv C ch S T Vl (k + i) o
  | [], k, i, o, _, h => by simp at h
  | x :: l, k, 0, o, h, ho => by
    obtain rfl : x = o := by simpa using ho
    exact h.1
  | x :: l, k, i + 1, o, h, ho => by
    have := HopSAll.at_ l (k + 1) i o h.2 (by simpa using ho)
    rw [show k + 1 + i = k + (i + 1) by omega] at this
    exact this
theorem chain_at {ops : Array Oper} {ch : List Nat} (h : chainOk ops ch = true) {t k : Nat} (hk : ch[t]? = some k) : k < ops.size ∧ (∀ k' o', ch[t + 1]? = some k' → ops[k']? = some o' → depOn o' k = true) ∧ ∀ s, ch[s]? = some k → s = t := by
  have ht : t < ch.length := (List.getElem?_eq_some_iff.1 hk).1
  have := range_all h ht
  rw [hk] at this
  simp only [Bool.and_eq_true, decide_eq_true_eq] at this
  obtain ⟨⟨h1, h2⟩, h3⟩ := this
  refine ⟨h1, fun k' o' hk' ho' => ?_, fun s hs => ?_⟩
  · rw [hk'] at h2
    simp only [ho'] at h2
    exact h2
  · have hsl : s < ch.length := (List.getElem?_eq_some_iff.1 hs).1
    have := range_all h3 hsl
    simp only [Bool.or_eq_true, beq_iff_eq, bne_iff_ne, ne_eq] at this
    rcases this with e | e
    · exact e
    · exact absurd hs e
theorem regionS {P : Program} {ops : Array Oper} {Q : Exit → Act → World → Prop} {a0 : Act} {id : Nat} {W : World} (Vl : List (World → Value → Prop)) (ch : List Nat) (S : Nat → List Value → World → Prop) (T : Nat → World → World → Prop) (C : World → Prop) (yv : Nat → Option Bool) (D : List (Nat × Option Tmp)) (G : List Nat)
    (hm : P.follows .mixedOrders = true) (hok : regionOk ops a0.tmps.size = true) (hD : (List.range ops.size).map (fun i => (i, dstOf ops i)) = D) (hG : (ops.all fun o => match o.guard with | none => true | some (j, _) => G.contains j) = true) (hch : chainOk ops ch = true)
    (h0 : C W.drew) (hS0 : S 0 [] W.drew) (hCb : ∀ w w', Below w.heap.size w w' → C w → C w') (hSb : ∀ t rs w w', Below w.heap.size w w' → S t rs w → S t rs w')
    (hyv : ∀ j ∈ G, ∀ w v, Vat Vl j w v → boolOf v = yv j)
    (hst : StabSAll ch T 0 Vl) (hop : HopSAll P ops a0 yv C ch S T Vl 0 ops.toList)
    (hend : ∀ (vs : Nat → Value) w, C w → S ch.length (ch.map vs) w → (∀ i, i < ops.size → Vat Vl i w (vs i)) → Q .normal (putAll vs D a0) w) : (Code.region id ops true).wp P Q a0 W := by
  have hs : ∀ i, StabS ch T i (Vat Vl i) := fun i => by have := StabSAll.at_ Vl 0 i hst; rwa [Nat.zero_add] at this
  let I : (Nat → Bool) → (Nat → Value) → World → Prop := fun L vs w => C w ∧ ∃ t, t ≤ ch.length ∧ (∀ (s k : Nat), ch[s]? = some k → L k = decide (s < t)) ∧ S t ((ch.take t).map vs) w ∧ ∀ i, L i = true → Vat Vl i w (vs i)
  refine region_inv I yv D hm hok hD ?_ ?_ ?_ ?_
  · intro i o j b ho hgd L vs w hI hL
    obtain ⟨_, t, _, _, _, hV⟩ := hI
    refine hyv j ?_ w _ (hV j hL)
    rw [Array.all_eq_true'] at hG
    have := hG o (Array.mem_of_getElem? ho)
    rw [hgd] at this
    exact List.contains_iff_mem.1 this
  · exact ⟨h0, 0, Nat.zero_le _, fun s k _ => by simp, hS0, fun i h => by cases h⟩
  · intro i o ho L vs w hLi hcl hdep hI
    obtain ⟨hC, t, ht, hL, hSt, hV⟩ := hI
    have H := HopSAll.at_ ops.toList 0 i o hop (by rw [Array.getElem?_toList]; exact ho)
    rw [Nat.zero_add] at H
    have hVd : ∀ j, depOn o j = true → Vat Vl j w (vs j) := fun j hj => hV j (hdep j hj)
    unfold HopS at H
    have hidx : ∀ t', ch.idxOf? i = some t' → ch[t']? = some i := by
      intro t' h'
      have := List.idxOf?_eq_some_iff.1 h'
      obtain ⟨h1, h2, _⟩ := this
      rw [List.getElem?_eq_getElem h1]; exact congrArg some (by simpa using h2)
    have hno : ch.idxOf? i = none → ∀ (s k : Nat), ch[s]? = some k → k ≠ i := by
      intro h' s k hk e
      subst e
      have := List.idxOf?_eq_none_iff.1 h'
      exact this (List.mem_of_getElem? hk)
    have hmap : ∀ (v : Value) (t' : Nat), (∀ (s k : Nat), s < t' → ch[s]? = some k → k ≠ i) → (ch.take t').map (fun k => if k = i then v else vs k) = (ch.take t').map vs := by
      intro v t' hne
      refine List.map_congr_left fun k hk => ?_
      obtain ⟨s, hs1⟩ := List.getElem?_of_mem hk
      rw [List.getElem?_take] at hs1
      split at hs1
      · rename_i hlt
        rw [if_neg (hne s k hlt hs1)]
      · cases hs1
    cases hix : ch.idxOf? i with
    | some t' =>
      rw [hix] at H
      have hci := hidx t' hix
      have F := chain_at hch hci
      have htt : t' = t := by
        have h1 := hL t' i hci
        rw [hLi] at h1
        have h2 : ¬ t' < t := by intro h; rw [decide_eq_true h] at h1; cases h1
        rcases Nat.lt_or_ge t t' with h | h
        · exfalso
          -- the one ahead of it in the chain has been carried out
          obtain ⟨p, hp⟩ : ∃ p, t' = p + 1 := ⟨t' - 1, by omega⟩
          subst hp
          have hpl : p < ch.length := by have := (List.getElem?_eq_some_iff.1 hci).1; omega
          have hpk := List.getElem?_eq_getElem hpl
          have hd := (chain_at hch hpk).2.1 i o hci ho
          have hl := hdep _ hd
          rw [hL p _ hpk] at hl
          have := of_decide_eq_true hl
          omega
        · omega
      subst htt
      have H1 := H vs w hC hSt hVd
      have hlast : (ch.take (t' + 1)) = ch.take t' ++ [i] := by
        rw [List.take_add_one, hci]; rfl
      have hne : ∀ (s k : Nat), s < t' → ch[s]? = some k → k ≠ i := by
        intro s k hs1 hk e
        subst e
        have := F.2.2 s hk
        omega
      have hLn : ∀ (s k : Nat), ch[s]? = some k → (if k = i then true else L k) = decide (s < t' + 1) := by
        intro s k hk
        by_cases e : k = i
        · subst e
          rw [if_pos rfl, F.2.2 s hk]; simp
        · rw [if_neg e, hL s k hk]
          have hst' : s ≠ t' := fun e2 => by subst e2; rw [hci] at hk; exact e (Option.some.inj hk).symm
          by_cases h : s < t'
          · rw [decide_eq_true h, decide_eq_true (by omega)]
          · rw [decide_eq_false h, decide_eq_false (by omega)]
      have hmapS : ∀ v : Value, (ch.take (t' + 1)).map (fun k => if k = i then v else vs k) = (ch.take t').map vs ++ [v] := by
        intro v
        rw [hlast, List.map_append, hmap v t' hne]
        simp
      have htl : t' + 1 ≤ ch.length := (List.getElem?_eq_some_iff.1 hci).1
      by_cases hw : wants yv o = true
      · rw [if_pos hw] at H1 ⊢
        unfold runs at H1 ⊢
        have fin : ∀ v w', (C w' ∧ T i w w' ∧ Vat Vl i w' v ∧ S (t' + 1) ((ch.take t').map vs ++ [v]) w') → I (fun k => if k = i then true else L k) (fun k => if k = i then v else vs k) w' := by
          rintro v w' ⟨k1, k2, k3, k4⟩
          refine ⟨k1, t' + 1, htl, hLn, by rw [hmapS]; exact k4, fun j hj => ?_⟩
          by_cases e : j = i
          · subst e; simpa using k3
          · simp only [e, if_false] at hj ⊢
            exact (hs j).2 i (List.mem_of_getElem? hci) (Ne.symm e) w w' _ k2 (hV j hj)
        split at H1 <;> first | exact fin _ _ H1 | exact Calls.mono H1 (fun e w'' ⟨v, he, hk⟩ => ⟨v, he, fin _ _ hk⟩) | exact H1.elim
      · rw [if_neg hw] at H1 ⊢
        refine ⟨hC, t' + 1, htl, hLn, by rw [hmapS]; exact H1.2, fun j hj => ?_⟩
        by_cases e : j = i
        · subst e; simpa using H1.1
        · simp only [e, if_false] at hj ⊢
          exact hV j hj
    | none =>
      rw [hix] at H
      have hn := hno hix
      have H1 := H vs w t hC (fun s k o' hs1 hk ho' => by
        cases hb : depOn o' i with
        | false => rfl
        | true =>
          have hlk : L k = true := by rw [hL s k hk]; exact decide_eq_true hs1
          have := hcl k o' ho' hlk i hb
          rw [hLi] at this; cases this) (fun s k hk hd => by
        have := hdep k hd
        rw [hL s k hk] at this
        exact of_decide_eq_true this) hSt hVd
      have hLn : ∀ (s k : Nat), ch[s]? = some k → (if k = i then true else L k) = decide (s < t) := fun s k hk => by rw [if_neg (hn s k hk)]; exact hL s k hk
      by_cases hw : wants yv o = true
      · rw [if_pos hw] at H1 ⊢
        unfold runs at H1 ⊢
        have fin : ∀ v w', (Below w.heap.size w w' ∧ Vat Vl i w' v) → I (fun k => if k = i then true else L k) (fun k => if k = i then v else vs k) w' := by
          rintro v w' ⟨k1, k2⟩
          refine ⟨hCb w w' k1 hC, t, ht, hLn, by rw [hmap v t (fun s k _ hk => hn s k hk)]; exact hSb _ _ _ _ k1 hSt, fun j hj => ?_⟩
          by_cases e : j = i
          · subst e; simpa using k2
          · simp only [e, if_false] at hj ⊢
            exact (hs j).1 w w' _ k1 (hV j hj)
        split at H1 <;> first | exact fin _ _ H1 | exact Calls.mono H1 (fun e w'' ⟨v, he, hk⟩ => ⟨v, he, fin _ _ hk⟩) | exact H1.elim
      · rw [if_neg hw] at H1 ⊢
        refine ⟨hC, t, ht, hLn, by rw [hmap undef t (fun s k _ hk => hn s k hk)]; exact hSt, fun j hj => ?_⟩
        by_cases e : j = i
        · subst e; simpa using H1
        · simp only [e, if_false] at hj ⊢
          exact hV j hj
  · intro L vs w hall hI
    obtain ⟨hC, t, ht, hL, hSt, hV⟩ := hI
    have htl : t = ch.length := by
      rcases Nat.lt_or_ge t ch.length with h | h
      · exfalso
        have hk := List.getElem?_eq_getElem h
        have h1 := hL t _ hk
        rw [hall _ (chain_at hch hk).1] at h1
        have := of_decide_eq_true h1.symm
        omega
      · omega
    subst htl
    rw [List.take_length] at hSt
    exact hend vs w hC hSt (fun i hi => hV i (hall i hi))
end Go.Proofs.Yticpjidcgaaldaa

namespace Go.Proofs.Yticpjidcgaaldaa
open Go.RowKit Go.Proofs.YticpjidcgaaldaaW.PrintWords Go.Proofs.YticpjidcgaaldaaW.PrintLast Go.Proofs.YticpjidcgaaldaaW.PrintMore
set_option linter.unusedVariables false
set_option linter.unusedSimpArgs false

set_option maxHeartbeats 1000000 in
theorem pbyte_any (base g : Nat) (p : List Int) (v : Value) (x : Int) (w : World) (hk : Pn w base g p v) (hb : base ≤ g) (hl : p.length ≤ 10000000) :
    Calls Try.prog 38 #[.pointer (some ⟨g, 0, none⟩), .int .u8 x] w fun e w' => ∃ v', e = .returned (.pointer (some ⟨g, 0, none⟩)) ∧ PPut w w' base g v (p ++ [x]) v' := by
  have hal := below_alloc (Below.refl w.heap.size w) (.cells #[.int .u8 x] 5)
  have HK := Aside0.mk hk
  have HB := Aside0.mk hb
  have HAL := Aside0.mk hal
  have key := add_any base g p [x] v (some ⟨w.heap.size, 0, none⟩) 1 1 _ (hk.below hal) hb (row8_C (blk_new w _) rfl (by simp)) (by omega)
  have KEY := Aside0.mk key
  clear hk hb hal key hl
  go_enter Try.func38, Try.ntmps38
  go_wp2_with fail
  refine KEY.out.mono ?_
  rintro e w1 ⟨v', rfl, h⟩
  have H := Aside0.mk (PPut.after HB.out HK.out HAL.out h)
  clear h
  go_wp2_with fail
  go_ret
  exact ⟨_, rfl, H.out⟩

end Go.Proofs.Yticpjidcgaaldaa

namespace Go.Proofs.Yticpjidcgaaldaa
open Go.RowKit Go.Proofs.YticpjidcgaaldaaW.PrintWords Go.Proofs.YticpjidcgaaldaaW.PrintLast Go.Proofs.YticpjidcgaaldaaW.PrintMore
set_option linter.unusedVariables false
set_option linter.unusedSimpArgs false

def Cur (cur : Array Value) (k : Nat) (f : Nat → S59) : Prop := ∀ j, j < k → cur[2 * j]? = some (.int .i32 (f j).f0) ∧ cur[2 * j + 1]? = some (.int .u32 (f j).f1)
end Go.Proofs.Yticpjidcgaaldaa

namespace Go.Proofs.Yticpjidcgaaldaa
open Go.RowKit Go.Proofs.YticpjidcgaaldaaW.PrintWords Go.Proofs.YticpjidcgaaldaaW.PrintLast Go.Proofs.YticpjidcgaaldaaW.PrintMore
set_option linter.unusedVariables false
set_option linter.unusedSimpArgs false

theorem PPut.blk {w w' : World} {base g gc : Nat} {v v' : Value} {p' : List Int} {o : Obj} (h : PPut w w' base g v p' v') (hb : w.heap[gc]? = some o) (hne : gc ≠ g) (hv : v.ownBlock ≠ some gc) : w'.heap[gc]? = some o ∧ v'.ownBlock ≠ some gc := by
  refine ⟨h.2.1.blk hb hne (fun e => hv e.symm), fun e => ?_⟩
  rcases h.2.2.1 with h1 | h1 | ⟨b, h1, h2⟩
  · rw [h1] at e; cases e
  · exact hv (h1 ▸ e)
  · rw [h1] at e
    have := blk_lt hb
    injection e; omega

set_option maxRecDepth 100000 in
set_option maxHeartbeats 8000000 in
theorem dbytes_no (tk hs : Int) (A A2 : Option Addr) (n c m c2 : Nat) (P : List Int) (C : List S59) (w : World) (hp : (Kd.int .u8).C w A n P) (hc : n ≤ c) (hC : k59.C w A2 m C) (hc2 : m ≤ c2) (hP : Bytes P) (hl : n < 4611686018427387904) (hr : rightB P m = false) :
    Calls Try.prog 41 #[.agg #[.int .u32 tk, .int .u32 hs, .slice A n c, .slice A2 m c2]] w fun e w' => e = .returned (.slice none 0 0) ∧ Below w.heap.size w w' := by
  obtain rfl := hp.1
  obtain rfl := hC.1
  have H0 := Aside0.mk ((Hp.start w).alloc (.cells #[.int .u32 tk, .int .u32 hs, .slice A P.length c, .slice A2 C.length c2] 26))
  have hb0 := below_alloc (Below.refl w.heap.size w) (.cells #[.int .u32 tk, .int .u32 hs, .slice A P.length c, .slice A2 C.length c2] 26)
  have KEY := Aside0.mk (right_any tk hs A A2 c c2 P C _ (Kd.C_below hp hb0) hc (Kd.C_below hC hb0) hc2 hP hl)
  rw [hr] at KEY
  generalize P.length = n at *
  generalize C.length = m at *
  clear hp hC hb0 hP hl hr hc hc2
  go_enter Try.func41, Try.ntmps41
  go_wp2_with (first | (refine wpList_load_row_g 26 (.tmp 1) rfl (w.heap.size) rfl rfl 26 _ (0, 0) _ (H0.out.get (i := 0) rfl) Try.underlying26 rfl (delta_info _ _ _ _) ?_))
  refine KEY.out.mono ?_
  rintro e w1 ⟨rfl, hb1⟩
  have H1 := Aside0.mk (H0.out.call hb1)
  clear hb1 KEY H0
  go_wp2_with fail
  go_ret
  exact ⟨rfl, H1.out.bel⟩

set_option maxRecDepth 100000 in
set_option maxHeartbeats 8000000 in
theorem dbytes_yes (tk hs : Nat) (A A2 : Option Addr) (n c m c2 : Nat) (P : List Int) (C : List S59) (w : World) (hp : (Kd.int .u8).C w A n P) (hc : n ≤ c) (hC : k59.C w A2 m C) (hc2 : m ≤ c2) (hr : rightB P m = true) (htk : tk < 4294967296) (hhs : hs < 4294967296) (hU : ∀ x ∈ C, U32 x.f1) :
    Calls Try.prog 41 #[.agg #[.int .u32 tk, .int .u32 hs, .slice A n c, .slice A2 m c2]] w fun e w' => ∃ v, e = .returned v ∧ (Kd.int .u8).R 5 w' w.heap.size (fun _ => True) v (dBytes tk hs P C) ∧ Below w.heap.size w w' := by
  obtain ⟨hr1, hr2⟩ : risB (-1) P = true ∧ P.length = m := by
    unfold rightB at hr
    simp only [Bool.and_eq_true, beq_iff_eq] at hr
    exact hr
  obtain ⟨q1, q2, q3⟩ := risB_le (by omega) (by omega) hr1
  obtain rfl := hp.1
  have hCl := hC.1
  have hn48 : P.length ≤ 48 := by omega
  have HPC : Aside0 (P.length = m ∧ C.length = m ∧ m ≤ 48) := ⟨hr2, hCl, by omega⟩
  have hb0 := below_alloc (Below.refl w.heap.size w) (.cells #[.int .u32 tk, .int .u32 hs, .slice A P.length c, .slice A2 m c2] 26)
  have KEY := Aside0.mk (by have := right_any tk hs A A2 c c2 P C _ (Kd.C_below hp hb0) hc (by rw [hCl]; exact Kd.C_below hC hb0) (by rw [hCl]; exact hc2) q2 (by omega); rw [hCl, hr] at this; exact this)
  have HTK := Aside0.mk htk
  have HHS := Aside0.mk hhs
  have HU := Aside0.mk hU
  have HB := Aside0.mk q2
  have HF : Aside0 (∀ z, Below w.heap.size w z → (Kd.int .u8).C z A P.length P ∧ k59.C z A2 m C) := ⟨fun z hb => ⟨Kd.C_below hp hb, Kd.C_below hC hb⟩⟩
  have H0 := Aside0.mk ((Hp.start w).alloc (.cells #[.int .u32 tk, .int .u32 hs, .slice A P.length c, .slice A2 m c2] 26))
  generalize hn : P.length = n at *
  have HNP := Aside0.mk hn
  clear hp hC hb0 hc hc2 hr hr1 hr2 q1 q2 q3 htk hhs hU hCl hn
  go_enter Try.func41, Try.ntmps41
  go_wp2_with (first | (refine wpList_load_row_g 26 (.tmp 1) rfl (w.heap.size) rfl rfl 26 _ (0, 0) _ (H0.out.get (i := 0) rfl) Try.underlying26 rfl (delta_info _ _ _ _) ?_))
  refine KEY.out.mono ?_
  rintro e V0 ⟨rfl, hb1⟩
  have H1 := Aside0.mk (H0.out.call hb1)
  clear hb1 KEY H0
  go_wp2_with fail
  obtain ⟨gd, hgd⟩ : ∃ gd, w.heap.size = gd := ⟨_, rfl⟩
  rw [hgd] at H1
  rw [hgd]
  obtain ⟨gp, hgp⟩ : ∃ gp, V0.heap.size = gp := ⟨_, rfl⟩
  rw [hgp]
  have HGD := Aside0.mk hgd
  have GD : Aside0 (gd < gp) := ⟨by rw [← hgp]; exact H1.out.lt (i := 0) rfl⟩
  have hP0 : Pn (V0.alloc (.cells #[.slice none 0 0] 91)) gp gp [] (.slice none 0 0) := ⟨by rw [← hgp]; exact blk_new _ _, Kd.R_nil _ _ _ _ _⟩
  have HP0 := Aside0.mk hP0
  have HB0 : Aside0 (Below gp V0 (V0.alloc (.cells #[.slice none 0 0] 91))) := ⟨by rw [← hgp]; exact below_alloc (Below.refl _ _) _⟩
  have HV0 : Aside0 (V0.heap.size = gp) := ⟨hgp⟩
  have HG0 := Aside0.mk (H1.out.get (i := 0) rfl)
  have HF0 : Aside0 (∀ z, Below gp V0 z → (Kd.int .u8).C z A n P ∧ k59.C z A2 m C) := ⟨fun z hz => HF.out z (by rw [HGD.out]; exact H1.out.bel.trans (hz.mono (Nat.le_of_lt GD.out)))⟩
  have IX : Aside0 (IntKind.u8.wrap (n : Int) = ((n % 256 : Nat) : Int)) := ⟨by rw [IntWalk.u8_in _ (by have := HPC.out; omega)]; have := HPC.out; omega⟩
  clear hP0 hgd hgp HF
  generalize hV : V0.alloc (.cells #[.slice none 0 0] 91) = V1 at *
  clear hV
  refine regionS (W := V1)
    [fun _ v => v = .pointer (some ⟨gd, 0, none⟩),
     fun _ v => v = .int .u32 tk,
     fun _ v => v = .pointer (some ⟨gp, 0, none⟩),
     fun _ v => v = .pointer (some ⟨gd, 1, none⟩),
     fun _ v => v = .int .u32 hs,
     fun _ v => v = .pointer (some ⟨gp, 0, none⟩),
     fun _ v => v = .pointer (some ⟨gd, 2, none⟩),
     fun _ v => v = .slice A n c,
     fun _ v => v = .int .i64 n,
     fun _ v => v = .int .u8 ((n % 256 : Nat) : Int),
     fun _ v => v = .pointer (some ⟨gp, 0, none⟩)]
    [2, 5, 10]
    (fun t => match t with | 0 => fun (rs : List Value) (w : World) => ∃ v, Pn w gp gp [] v | 1 => fun (rs : List Value) (w : World) => ∃ v, Pn w gp gp (lowN tk 4) v | 2 => fun (rs : List Value) (w : World) => ∃ v, Pn w gp gp (lowN tk 4 ++ lowN hs 4) v | 3 => fun (rs : List Value) (w : World) => ∃ v, Pn w gp gp (dHead tk hs n) v | _ => fun _ _ => False)
    (fun _ _ _ => True) (fun w => Below gp V0 w ∧ gp ≤ w.heap.size)
    (fun j =>  none)
    [(0, some 9), (1, some 10), (2, some 11), (3, some 12), (4, some 13), (5, some 14), (6, some 15), (7, some 16), (8, some 17), (9, some 18), (10, some 19)]
    []
    (by kernel_rfl) (by kernel_rfl) (by kernel_rfl) (by kernel_rfl) (by kernel_rfl) ?z4_1c ?z4_1i ?z4_1b ?z4_1d ?z4_1g ⟨?z4_1t0, ?z4_1t1, ?z4_1t2, ?z4_1t3, ?z4_1t4, ?z4_1t5, ?z4_1t6, ?z4_1t7, ?z4_1t8, ?z4_1t9, ?z4_1t10, trivial⟩ ⟨?z4_1o0, ?z4_1o1, ?z4_1o2, ?z4_1o3, ?z4_1o4, ?z4_1o5, ?z4_1o6, ?z4_1o7, ?z4_1o8, ?z4_1o9, ?z4_1o10, trivial⟩ ?z4_1e
  case z4_1c => exact ⟨HB0.out.trans (below_drew (Below.refl _ _)), by have := blk_lt HP0.out.1; exact Nat.le_of_lt this⟩
  case z4_1i => exact ⟨_, HP0.out⟩
  case z4_1b => intro w w' hb h; exact ⟨h.1.trans (hb.mono h.2), Nat.le_trans h.2 hb.size⟩
  case z4_1d =>
    intro t rs w w' hb h
    match t, h with
    | 0, h => (replace h : ∃ v, Pn w gp gp [] v := h); show ∃ v, Pn w' gp gp [] v; (obtain ⟨v, h⟩ := h; exact ⟨v, h.below hb⟩)
    | 1, h => (replace h : ∃ v, Pn w gp gp (lowN tk 4) v := h); show ∃ v, Pn w' gp gp (lowN tk 4) v; (obtain ⟨v, h⟩ := h; exact ⟨v, h.below hb⟩)
    | 2, h => (replace h : ∃ v, Pn w gp gp (lowN tk 4 ++ lowN hs 4) v := h); show ∃ v, Pn w' gp gp (lowN tk 4 ++ lowN hs 4) v; (obtain ⟨v, h⟩ := h; exact ⟨v, h.below hb⟩)
    | 3, h => (replace h : ∃ v, Pn w gp gp (dHead tk hs n) v := h); show ∃ v, Pn w' gp gp (dHead tk hs n) v; (obtain ⟨v, h⟩ := h; exact ⟨v, h.below hb⟩)
    | _ + 4, h => exact h.elim
  case z4_1g =>
    intro j hj; cases hj
  case z4_1t0 => exact StabS.const _ _ _ _
  case z4_1t1 => exact StabS.const _ _ _ _
  case z4_1t2 => exact StabS.const _ _ _ _
  case z4_1t3 => exact StabS.const _ _ _ _
  case z4_1t4 => exact StabS.const _ _ _ _
  case z4_1t5 => exact StabS.const _ _ _ _
  case z4_1t6 => exact StabS.const _ _ _ _
  case z4_1t7 => exact StabS.const _ _ _ _
  case z4_1t8 => exact StabS.const _ _ _ _
  case z4_1t9 => exact StabS.const _ _ _ _
  case z4_1t10 => exact StabS.const _ _ _ _
  case z4_1o0 =>
    intro vs w t hC ht1 ht2 hS hV
    rw [if_pos (by kernel_rfl)]
    generalize hρ : rho _ _ _ vs = ρ
    have e1 : ρ (.tmp 1) = .pointer (some ⟨gd, 0, none⟩) := by rw [← hρ]; kernel_rfl
    clear hρ hV
    refine runs_val (v := .pointer (some ⟨gd, 0, none⟩)) (w' := w) ?_ ⟨Below.refl _ _, rfl⟩
    clear ht1 ht2 hS hC
    go_simp <;> (first | exact IntWalk.u64_in _ (by omega) | exact IntWalk.u32_in _ (by omega) | exact IntWalk.u16_in _ (by omega) | exact IntWalk.u8_in _ (by omega) | exact IntWalk.i64_in _ (by omega) | skip)
  case z4_1o1 =>
    intro vs w t hC ht1 ht2 hS hV
    rw [if_pos (by kernel_rfl)]
    generalize hρ : rho _ _ _ vs = ρ
    have d9 : (vs 0) = .pointer (some ⟨gd, 0, none⟩) := hV 0 (by kernel_rfl)
    have e9 : ρ (.tmp 9) = vs 0 := by rw [← hρ]; kernel_rfl
    rw [d9] at e9; clear d9
    clear hρ hV
    have c0 := blk_cell ((hC.1.block gd GD.out).trans HG0.out) 0
    refine runs_val (v := .int .u32 tk) (w' := w) ?_ ⟨Below.refl _ _, rfl⟩
    clear ht1 ht2 hS hC
    go_simp
  case z4_1o2 =>
    intro vs w hC hS hV
    replace hS : ∃ v, Pn w gp gp [] v := hS
    rw [if_pos (by kernel_rfl)]
    generalize hρ : rho _ _ _ vs = ρ
    have e3 : ρ (.tmp 3) = .pointer (some ⟨gp, 0, none⟩) := by rw [← hρ]; kernel_rfl
    have d10 : (vs 1) = .int .u32 tk := hV 1 (by kernel_rfl)
    have e10 : ρ (.tmp 10) = vs 1 := by rw [← hρ]; kernel_rfl
    rw [d10] at e10; clear d10
    have ef39 : ρ (.func 39) = .func (.func 39) #[] #[] := by rw [← hρ]; rfl
    clear hρ hV
    obtain ⟨v, hp⟩ := hS
    refine runs_call (f := 39) (args := #[.pointer (some ⟨gp, 0, none⟩), .int .u32 tk]) (w' := w) ?_ ?_
    · go_simp
    · refine (pword_any gp gp [] v tk HTK.out w hp (Nat.le_refl _) (by simp)).mono ?_
      rintro e w5 ⟨v', rfl, h⟩
      exact ⟨_, rfl, ⟨hC.1.trans h.2.2.2, Nat.le_trans hC.2 h.2.1.1⟩, trivial, rfl, ⟨v', h.1⟩⟩
  case z4_1o3 =>
    intro vs w t hC ht1 ht2 hS hV
    rw [if_pos (by kernel_rfl)]
    generalize hρ : rho _ _ _ vs = ρ
    have e1 : ρ (.tmp 1) = .pointer (some ⟨gd, 0, none⟩) := by rw [← hρ]; kernel_rfl
    clear hρ hV
    refine runs_val (v := .pointer (some ⟨gd, 1, none⟩)) (w' := w) ?_ ⟨Below.refl _ _, rfl⟩
    clear ht1 ht2 hS hC
    go_simp <;> (first | exact IntWalk.u64_in _ (by omega) | exact IntWalk.u32_in _ (by omega) | exact IntWalk.u16_in _ (by omega) | exact IntWalk.u8_in _ (by omega) | exact IntWalk.i64_in _ (by omega) | skip)
  case z4_1o4 =>
    intro vs w t hC ht1 ht2 hS hV
    rw [if_pos (by kernel_rfl)]
    generalize hρ : rho _ _ _ vs = ρ
    have d12 : (vs 3) = .pointer (some ⟨gd, 1, none⟩) := hV 3 (by kernel_rfl)
    have e12 : ρ (.tmp 12) = vs 3 := by rw [← hρ]; kernel_rfl
    rw [d12] at e12; clear d12
    clear hρ hV
    have c0 := blk_cell ((hC.1.block gd GD.out).trans HG0.out) 1
    refine runs_val (v := .int .u32 hs) (w' := w) ?_ ⟨Below.refl _ _, rfl⟩
    clear ht1 ht2 hS hC
    go_simp
  case z4_1o5 =>
    intro vs w hC hS hV
    replace hS : ∃ v, Pn w gp gp (lowN tk 4) v := hS
    rw [if_pos (by kernel_rfl)]
    generalize hρ : rho _ _ _ vs = ρ
    have d11 : (vs 2) = .pointer (some ⟨gp, 0, none⟩) := hV 2 (by kernel_rfl)
    have e11 : ρ (.tmp 11) = vs 2 := by rw [← hρ]; kernel_rfl
    rw [d11] at e11; clear d11
    have d13 : (vs 4) = .int .u32 hs := hV 4 (by kernel_rfl)
    have e13 : ρ (.tmp 13) = vs 4 := by rw [← hρ]; kernel_rfl
    rw [d13] at e13; clear d13
    have ef39 : ρ (.func 39) = .func (.func 39) #[] #[] := by rw [← hρ]; rfl
    clear hρ hV
    obtain ⟨v, hp⟩ := hS
    refine runs_call (f := 39) (args := #[.pointer (some ⟨gp, 0, none⟩), .int .u32 hs]) (w' := w) ?_ ?_
    · go_simp
    · refine (pword_any gp gp (lowN tk 4) v hs HHS.out w hp (Nat.le_refl _) (by rw [lowN_length]; omega)).mono ?_
      rintro e w5 ⟨v', rfl, h⟩
      exact ⟨_, rfl, ⟨hC.1.trans h.2.2.2, Nat.le_trans hC.2 h.2.1.1⟩, trivial, rfl, ⟨v', h.1⟩⟩
  case z4_1o6 =>
    intro vs w t hC ht1 ht2 hS hV
    rw [if_pos (by kernel_rfl)]
    generalize hρ : rho _ _ _ vs = ρ
    have e1 : ρ (.tmp 1) = .pointer (some ⟨gd, 0, none⟩) := by rw [← hρ]; kernel_rfl
    clear hρ hV
    refine runs_val (v := .pointer (some ⟨gd, 2, none⟩)) (w' := w) ?_ ⟨Below.refl _ _, rfl⟩
    clear ht1 ht2 hS hC
    go_simp <;> (first | exact IntWalk.u64_in _ (by omega) | exact IntWalk.u32_in _ (by omega) | exact IntWalk.u16_in _ (by omega) | exact IntWalk.u8_in _ (by omega) | exact IntWalk.i64_in _ (by omega) | skip)
  case z4_1o7 =>
    intro vs w t hC ht1 ht2 hS hV
    rw [if_pos (by kernel_rfl)]
    generalize hρ : rho _ _ _ vs = ρ
    have d15 : (vs 6) = .pointer (some ⟨gd, 2, none⟩) := hV 6 (by kernel_rfl)
    have e15 : ρ (.tmp 15) = vs 6 := by rw [← hρ]; kernel_rfl
    rw [d15] at e15; clear d15
    clear hρ hV
    have c0 := blk_cell ((hC.1.block gd GD.out).trans HG0.out) 2
    refine runs_val (v := .slice A n c) (w' := w) ?_ ⟨Below.refl _ _, rfl⟩
    clear ht1 ht2 hS hC
    go_simp
  case z4_1o8 =>
    intro vs w t hC ht1 ht2 hS hV
    rw [if_pos (by kernel_rfl)]
    generalize hρ : rho _ _ _ vs = ρ
    have d16 : (vs 7) = .slice A n c := hV 7 (by kernel_rfl)
    have e16 : ρ (.tmp 16) = vs 7 := by rw [← hρ]; kernel_rfl
    rw [d16] at e16; clear d16
    clear hρ hV
    refine runs_val (v := .int .i64 n) (w' := w) ?_ ⟨Below.refl _ _, rfl⟩
    clear ht1 ht2 hS hC
    go_simp <;> (first | exact IntWalk.u64_in _ (by omega) | exact IntWalk.u32_in _ (by omega) | exact IntWalk.u16_in _ (by omega) | exact IntWalk.u8_in _ (by omega) | exact IntWalk.i64_in _ (by omega) | skip)
  case z4_1o9 =>
    intro vs w t hC ht1 ht2 hS hV
    rw [if_pos (by kernel_rfl)]
    generalize hρ : rho _ _ _ vs = ρ
    have d17 : (vs 8) = .int .i64 n := hV 8 (by kernel_rfl)
    have e17 : ρ (.tmp 17) = vs 8 := by rw [← hρ]; kernel_rfl
    rw [d17] at e17; clear d17
    clear hρ hV
    have ix := IX.out
    refine runs_val (v := .int .u8 ((n % 256 : Nat) : Int)) (w' := w) ?_ ⟨Below.refl _ _, rfl⟩
    clear ht1 ht2 hS hC
    rw [← ix]
    clear ix
    go_simp
  case z4_1o10 =>
    intro vs w hC hS hV
    replace hS : ∃ v, Pn w gp gp (lowN tk 4 ++ lowN hs 4) v := hS
    rw [if_pos (by kernel_rfl)]
    generalize hρ : rho _ _ _ vs = ρ
    have d14 : (vs 5) = .pointer (some ⟨gp, 0, none⟩) := hV 5 (by kernel_rfl)
    have e14 : ρ (.tmp 14) = vs 5 := by rw [← hρ]; kernel_rfl
    rw [d14] at e14; clear d14
    have d18 : (vs 9) = .int .u8 ((n % 256 : Nat) : Int) := hV 9 (by kernel_rfl)
    have e18 : ρ (.tmp 18) = vs 9 := by rw [← hρ]; kernel_rfl
    rw [d18] at e18; clear d18
    have ef38 : ρ (.func 38) = .func (.func 38) #[] #[] := by rw [← hρ]; rfl
    clear hρ hV
    obtain ⟨v, hp⟩ := hS
    refine runs_call (f := 38) (args := #[.pointer (some ⟨gp, 0, none⟩), .int .u8 ((n % 256 : Nat) : Int)]) (w' := w) ?_ ?_
    · go_simp
    · refine (pbyte_any gp gp (lowN tk 4 ++ lowN hs 4) v _ w hp (Nat.le_refl _) (by rw [List.length_append, lowN_length, lowN_length]; omega)).mono ?_
      rintro e w5 ⟨v', rfl, h⟩
      exact ⟨_, rfl, ⟨hC.1.trans h.2.2.2, Nat.le_trans hC.2 h.2.1.1⟩, trivial, rfl, ⟨v', h.1⟩⟩
  case z4_1e =>
    intro vs V2 hC hS hV
    replace hS : (fun (w : World) => ∃ v, Pn w gp gp (dHead tk hs n) v) V2 := hS
    have d9 : (vs 0) = .pointer (some ⟨gd, 0, none⟩) := hV 0 (Nat.le_of_ble_eq_true rfl)
    have d10 : (vs 1) = .int .u32 tk := hV 1 (Nat.le_of_ble_eq_true rfl)
    have d11 : (vs 2) = .pointer (some ⟨gp, 0, none⟩) := hV 2 (Nat.le_of_ble_eq_true rfl)
    have d12 : (vs 3) = .pointer (some ⟨gd, 1, none⟩) := hV 3 (Nat.le_of_ble_eq_true rfl)
    have d13 : (vs 4) = .int .u32 hs := hV 4 (Nat.le_of_ble_eq_true rfl)
    have d14 : (vs 5) = .pointer (some ⟨gp, 0, none⟩) := hV 5 (Nat.le_of_ble_eq_true rfl)
    have d15 : (vs 6) = .pointer (some ⟨gd, 2, none⟩) := hV 6 (Nat.le_of_ble_eq_true rfl)
    have d16 : (vs 7) = .slice A n c := hV 7 (Nat.le_of_ble_eq_true rfl)
    have d17 : (vs 8) = .int .i64 n := hV 8 (Nat.le_of_ble_eq_true rfl)
    have d18 : (vs 9) = .int .u8 ((n % 256 : Nat) : Int) := hV 9 (Nat.le_of_ble_eq_true rfl)
    have d19 : (vs 10) = .pointer (some ⟨gp, 0, none⟩) := hV 10 (Nat.le_of_ble_eq_true rfl)
    clear hV
    simp only [putAll]
    rw [d9, d10, d11, d12, d13, d14, d15, d16, d17, d18, d19]
    clear d9 d10 d11 d12 d13 d14 d15 d16 d17 d18 d19
    clear vs
    simp only [Act.put, List.setIfInBounds_toArray, List.set_cons_zero, List.set_cons_succ]
    have HP2 := Aside0.mk hS
    have HB2 := Aside0.mk hC.1
    have GC2 := Aside0.mk hC.2
    clear hS hC HP0 HB0
    have c3 := blk_cell ((HB2.out.block gd GD.out).trans HG0.out) 3
    go_wp2_with fail
    clear c3
    go_loopw [23] (fun v23 wr => ∃ i : Nat, i ≤ m ∧ v23 = .int .i64 i ∧ Aside0 ((∃ v, Pn wr gp gp (dHead tk hs n ++ dRows (P.take i) (C.take i)) v) ∧ Below gp V0 wr)) (fun v23 _ => m - (intOf v23).toNat)
    case atStart => exact ⟨0, by omega, rfl, ⟨by simpa [dRows] using HP2.out, HB2.out⟩⟩
    case round =>
      clear HP2 HB2 GC2
      obtain ⟨i, hi, rfl, H⟩ := hrel
      by_cases hlt : i < m
      · have d1 : decide (i < m) = true := decide_eq_true hlt
        have hiP : i < P.length := by rw [HNP.out, HPC.out.1]; exact hlt
        have hiC : i < C.length := by rw [HPC.out.2.1]; exact hlt
        have HI := Aside0.mk (And.intro hiP hiC)
        obtain ⟨f1, f2⟩ := HF0.out wr H.out.2
        obtain ⟨adp, hA, p0⟩ := int_at f1 i hiP
        obtain ⟨adc, hA2, q0, q1⟩ := cell_at25 f2 hiC
        have HROW := Aside0.mk (dRows_succ hiP hiC)
        have HPI0 : Aside0 (∀ z, Below gp V0 z → ∃ ad, A = some ad ∧ z.cell? (ad.add i) = some (.int .u8 P[i])) := ⟨fun z hz => int_at (HF0.out z hz).1 i hiP⟩
        have HX := HB.out _ (List.getElem_mem hiP)
        have HY := HU.out _ (List.getElem_mem hiC)
        subst hA hA2
        have HPI : Aside0 (∀ z, Below gp V0 z → z.cell? (adp.add i) = some (.int .u8 P[i])) := ⟨fun z hz => by obtain ⟨ad, e, h⟩ := HPI0.out z hz; rw [Option.some.inj e]; exact h⟩
        clear HPI0
        have hi0 : (0 : Int) ≤ i := by omega
        have him : (i : Int) < m := by omega
        have hin : (i : Int) < n := by have := HPC.out; omega
        obtain ⟨pi, hpi⟩ : ∃ pi, P[i] = pi := ⟨_, rfl⟩
        obtain ⟨x, hx⟩ : ∃ x, C[i] = x := ⟨_, rfl⟩
        rw [hpi] at p0 HROW HPI
        rw [hx] at q0 q1 HROW HY
        obtain ⟨y0, hy0⟩ : ∃ y0 : Nat, x.f1 = (y0 : Int) := ⟨x.f1.toNat, by unfold U32 at HY; omega⟩
        obtain ⟨x0, hx0⟩ : ∃ x0 : Nat, x.f0 % 4294967296 = (x0 : Int) := ⟨(x.f0 % 4294967296).toNat, by omega⟩
        obtain ⟨z0, hz0⟩ : ∃ z0 : Int, x.f0 = z0 := ⟨_, rfl⟩
        have hcb : cellB true x = lowN x0 4 ++ lowN y0 4 := by unfold cellB; rw [if_pos rfl, hx0, hy0]; simp
        rw [hcb] at HROW
        rw [hz0] at q0 hx0
        rw [hy0] at q1 HY
        have HXW : Aside0 (IntKind.u32.wrap z0 = (x0 : Int) ∧ x0 < 4294967296 ∧ y0 < 4294967296) := ⟨by rw [IntKind.wrap_u32, hx0], by omega, by unfold U32 at HY; omega⟩
        have HLEN : Aside0 ((dHead tk hs n ++ dRows (P.take i) (C.take i)).length ≤ 10000) := ⟨by
          have h1 := dRows_len (P.take i) (C.take i)
          have h2 : (P.take i).length ≤ n := by rw [List.length_take, HNP.out]; omega
          simp only [List.length_append, dHead, lowN_length, List.length_cons, List.length_nil]
          omega⟩
        clear hpi hx hcb hx0 hz0 hy0 HX HY f1 f2
        obtain ⟨W0, hW0⟩ : ∃ W0, dHead tk hs n ++ dRows (P.take i) (C.take i) = W0 := ⟨_, rfl⟩
        rw [hW0] at H HLEN
        have HW0 := Aside0.mk hW0
        clear hW0
        go_wp2_with fail
        have HC0 : Aside0 (Below gp V0 (wr.alloc (.cells #[.int .i32 z0, .int .u32 y0] 59))) := ⟨H.out.2.trans (below_alloc (Below.refl _ _) _ |>.mono (by obtain ⟨v, hv⟩ := H.out.1; exact Nat.le_of_lt hv.lt))⟩
        have HS0 : Aside0 (∃ v, Pn (wr.alloc (.cells #[.int .i32 z0, .int .u32 y0] 59)) gp gp W0 v ∧ v.ownBlock ≠ some wr.heap.size) := ⟨by
          obtain ⟨v, hv⟩ := H.out.1
          exact ⟨v, hv.below (below_alloc (Below.refl _ _) _), fun e => by have := hv.own _ e; omega⟩⟩
        have GC0 := Aside0.mk (blk_new wr (.cells #[.int .i32 z0, .int .u32 y0] 59))
        have GNE : Aside0 (wr.heap.size ≠ gp ∧ gp ≤ wr.heap.size) := ⟨by obtain ⟨v, hv⟩ := H.out.1; have := hv.lt; exact ⟨by omega, by omega⟩⟩
        have GSZ : Aside0 (gp ≤ (wr.alloc (.cells #[.int .i32 z0, .int .u32 y0] 59)).heap.size) := ⟨by have := GNE.out.2; simp; omega⟩
        generalize wr.alloc (.cells #[.int .i32 z0, .int .u32 y0] 59) = z1 at *
        generalize wr.heap.size = gc at *
        clear H
        refine regionS (W := z1)
          [fun _ v => v = .pointer (some ⟨gd, 2, none⟩),
           fun _ v => v = .slice (some adp) n c,
           fun _ v => v = .int .i64 i,
           fun _ v => v = .pointer (some (adp.add i)),
           fun _ v => v = .int .u8 pi,
           fun _ v => v = .pointer (some ⟨gp, 0, none⟩),
           fun _ v => v = .pointer (some ⟨gc, 0, none⟩),
           fun _ v => v = .int .i32 z0,
           fun _ v => v = .int .u32 x0,
           fun _ v => v = .pointer (some ⟨gp, 0, none⟩),
           fun _ v => v = .pointer (some ⟨gc, 1, none⟩),
           fun _ v => v = .int .u32 y0,
           fun _ v => v = .pointer (some ⟨gp, 0, none⟩)]
          [5, 9, 12]
          (fun t => match t with | 0 => fun (rs : List Value) (w : World) => ∃ v, Pn w gp gp W0 v ∧ v.ownBlock ≠ some gc | 1 => fun (rs : List Value) (w : World) => ∃ v, Pn w gp gp (W0 ++ [pi]) v ∧ v.ownBlock ≠ some gc | 2 => fun (rs : List Value) (w : World) => ∃ v, Pn w gp gp (W0 ++ [pi] ++ lowN x0 4) v ∧ v.ownBlock ≠ some gc | 3 => fun (rs : List Value) (w : World) => ∃ v, Pn w gp gp (W0 ++ [pi] ++ lowN x0 4 ++ lowN y0 4) v ∧ v.ownBlock ≠ some gc | _ => fun _ _ => False)
          (fun _ _ _ => True) (fun w => Below gp V0 w ∧ gp ≤ w.heap.size ∧ w.heap[gc]? = some (.cells #[.int .i32 z0, .int .u32 y0] 59 (0, 0)))
          (fun j =>  none)
          [(0, some 28), (1, some 29), (2, some 30), (3, some 31), (4, some 32), (5, some 33), (6, some 34), (7, some 35), (8, some 36), (9, some 37), (10, some 38), (11, some 39), (12, some 40)]
          []
          (by kernel_rfl) (by kernel_rfl) (by kernel_rfl) (by kernel_rfl) (by kernel_rfl) ?z8_2c ?z8_2i ?z8_2b ?z8_2d ?z8_2g ⟨?z8_2t0, ?z8_2t1, ?z8_2t2, ?z8_2t3, ?z8_2t4, ?z8_2t5, ?z8_2t6, ?z8_2t7, ?z8_2t8, ?z8_2t9, ?z8_2t10, ?z8_2t11, ?z8_2t12, trivial⟩ ⟨?z8_2o0, ?z8_2o1, ?z8_2o2, ?z8_2o3, ?z8_2o4, ?z8_2o5, ?z8_2o6, ?z8_2o7, ?z8_2o8, ?z8_2o9, ?z8_2o10, ?z8_2o11, ?z8_2o12, trivial⟩ ?z8_2e
        case z8_2c => exact ⟨HC0.out.trans (below_drew (Below.refl _ _)), GSZ.out, GC0.out⟩
        case z8_2i => exact HS0.out
        case z8_2b => intro w w' hb h; exact ⟨h.1.trans (hb.mono h.2.1), Nat.le_trans h.2.1 hb.size, blk_below h.2.2 hb⟩
        case z8_2d =>
          intro t rs w w' hb h
          match t, h with
          | 0, h => (replace h : ∃ v, Pn w gp gp W0 v ∧ v.ownBlock ≠ some gc := h); show ∃ v, Pn w' gp gp W0 v ∧ v.ownBlock ≠ some gc; (obtain ⟨v, h, h2⟩ := h; exact ⟨v, h.below hb, h2⟩)
          | 1, h => (replace h : ∃ v, Pn w gp gp (W0 ++ [pi]) v ∧ v.ownBlock ≠ some gc := h); show ∃ v, Pn w' gp gp (W0 ++ [pi]) v ∧ v.ownBlock ≠ some gc; (obtain ⟨v, h, h2⟩ := h; exact ⟨v, h.below hb, h2⟩)
          | 2, h => (replace h : ∃ v, Pn w gp gp (W0 ++ [pi] ++ lowN x0 4) v ∧ v.ownBlock ≠ some gc := h); show ∃ v, Pn w' gp gp (W0 ++ [pi] ++ lowN x0 4) v ∧ v.ownBlock ≠ some gc; (obtain ⟨v, h, h2⟩ := h; exact ⟨v, h.below hb, h2⟩)
          | 3, h => (replace h : ∃ v, Pn w gp gp (W0 ++ [pi] ++ lowN x0 4 ++ lowN y0 4) v ∧ v.ownBlock ≠ some gc := h); show ∃ v, Pn w' gp gp (W0 ++ [pi] ++ lowN x0 4 ++ lowN y0 4) v ∧ v.ownBlock ≠ some gc; (obtain ⟨v, h, h2⟩ := h; exact ⟨v, h.below hb, h2⟩)
          | _ + 4, h => exact h.elim
        case z8_2g =>
          intro j hj; cases hj
        case z8_2t0 => exact StabS.const _ _ _ _
        case z8_2t1 => exact StabS.const _ _ _ _
        case z8_2t2 => exact StabS.const _ _ _ _
        case z8_2t3 => exact StabS.const _ _ _ _
        case z8_2t4 => exact StabS.const _ _ _ _
        case z8_2t5 => exact StabS.const _ _ _ _
        case z8_2t6 => exact StabS.const _ _ _ _
        case z8_2t7 => exact StabS.const _ _ _ _
        case z8_2t8 => exact StabS.const _ _ _ _
        case z8_2t9 => exact StabS.const _ _ _ _
        case z8_2t10 => exact StabS.const _ _ _ _
        case z8_2t11 => exact StabS.const _ _ _ _
        case z8_2t12 => exact StabS.const _ _ _ _
        case z8_2o0 =>
          intro vs w t hC ht1 ht2 hS hV
          rw [if_pos (by kernel_rfl)]
          generalize hρ : rho _ _ _ vs = ρ
          have e1 : ρ (.tmp 1) = .pointer (some ⟨gd, 0, none⟩) := by rw [← hρ]; kernel_rfl
          clear hρ hV
          refine runs_val (v := .pointer (some ⟨gd, 2, none⟩)) (w' := w) ?_ ⟨Below.refl _ _, rfl⟩
          clear ht1 ht2 hS hC
          go_simp <;> (first | exact IntWalk.u64_in _ (by omega) | exact IntWalk.u32_in _ (by omega) | exact IntWalk.u16_in _ (by omega) | exact IntWalk.u8_in _ (by omega) | exact IntWalk.i64_in _ (by omega) | skip)
        case z8_2o1 =>
          intro vs w t hC ht1 ht2 hS hV
          rw [if_pos (by kernel_rfl)]
          generalize hρ : rho _ _ _ vs = ρ
          have d28 : (vs 0) = .pointer (some ⟨gd, 2, none⟩) := hV 0 (by kernel_rfl)
          have e28 : ρ (.tmp 28) = vs 0 := by rw [← hρ]; kernel_rfl
          rw [d28] at e28; clear d28
          clear hρ hV
          have c0 := blk_cell ((hC.1.block gd GD.out).trans HG0.out) 2
          refine runs_val (v := .slice (some adp) n c) (w' := w) ?_ ⟨Below.refl _ _, rfl⟩
          clear ht1 ht2 hS hC
          go_simp
        case z8_2o2 =>
          intro vs w t hC ht1 ht2 hS hV
          rw [if_pos (by kernel_rfl)]
          generalize hρ : rho _ _ _ vs = ρ
          have e4 : ρ (.tmp 4) = .int .i64 i := by rw [← hρ]; kernel_rfl
          clear hρ hV
          refine runs_val (v := .int .i64 i) (w' := w) ?_ ⟨Below.refl _ _, rfl⟩
          clear ht1 ht2 hS hC
          go_simp <;> (first | exact IntWalk.u64_in _ (by omega) | exact IntWalk.u32_in _ (by omega) | exact IntWalk.u16_in _ (by omega) | exact IntWalk.u8_in _ (by omega) | exact IntWalk.i64_in _ (by omega) | skip)
        case z8_2o3 =>
          intro vs w t hC ht1 ht2 hS hV
          rw [if_pos (by kernel_rfl)]
          generalize hρ : rho _ _ _ vs = ρ
          have d29 : (vs 1) = .slice (some adp) n c := hV 1 (by kernel_rfl)
          have e29 : ρ (.tmp 29) = vs 1 := by rw [← hρ]; kernel_rfl
          rw [d29] at e29; clear d29
          have d30 : (vs 2) = .int .i64 i := hV 2 (by kernel_rfl)
          have e30 : ρ (.tmp 30) = vs 2 := by rw [← hρ]; kernel_rfl
          rw [d30] at e30; clear d30
          clear hρ hV
          refine runs_val (v := .pointer (some (adp.add i))) (w' := w) ?_ ⟨Below.refl _ _, rfl⟩
          clear ht1 ht2 hS hC
          go_simp <;> (first | exact IntWalk.u64_in _ (by omega) | exact IntWalk.u32_in _ (by omega) | exact IntWalk.u16_in _ (by omega) | exact IntWalk.u8_in _ (by omega) | exact IntWalk.i64_in _ (by omega) | skip)
        case z8_2o4 =>
          intro vs w t hC ht1 ht2 hS hV
          rw [if_pos (by kernel_rfl)]
          generalize hρ : rho _ _ _ vs = ρ
          have d31 : (vs 3) = .pointer (some (adp.add i)) := hV 3 (by kernel_rfl)
          have e31 : ρ (.tmp 31) = vs 3 := by rw [← hρ]; kernel_rfl
          rw [d31] at e31; clear d31
          clear hρ hV
          have c0 := HPI.out w hC.1
          refine runs_val (v := .int .u8 pi) (w' := w) ?_ ⟨Below.refl _ _, rfl⟩
          clear ht1 ht2 hS hC
          go_simp
        case z8_2o5 =>
          intro vs w hC hS hV
          replace hS : ∃ v, Pn w gp gp W0 v ∧ v.ownBlock ≠ some gc := hS
          rw [if_pos (by kernel_rfl)]
          generalize hρ : rho _ _ _ vs = ρ
          have e3 : ρ (.tmp 3) = .pointer (some ⟨gp, 0, none⟩) := by rw [← hρ]; kernel_rfl
          have d32 : (vs 4) = .int .u8 pi := hV 4 (by kernel_rfl)
          have e32 : ρ (.tmp 32) = vs 4 := by rw [← hρ]; kernel_rfl
          rw [d32] at e32; clear d32
          have ef38 : ρ (.func 38) = .func (.func 38) #[] #[] := by rw [← hρ]; rfl
          clear hρ hV
          obtain ⟨v, hp, hv⟩ := hS
          refine runs_call (f := 38) (args := #[.pointer (some ⟨gp, 0, none⟩), .int .u8 pi]) (w' := w) ?_ ?_
          · go_simp
          · refine (pbyte_any gp gp W0 v _ w hp (Nat.le_refl _) (by have := HLEN.out; omega)).mono ?_
            rintro e w5 ⟨v', rfl, h⟩
            obtain ⟨k1, k2⟩ := h.blk hC.2.2 GNE.out.1 hv
            exact ⟨_, rfl, ⟨hC.1.trans h.2.2.2, Nat.le_trans hC.2.1 h.2.1.1, k1⟩, trivial, rfl, ⟨v', h.1, k2⟩⟩
        case z8_2o6 =>
          intro vs w t hC ht1 ht2 hS hV
          rw [if_pos (by kernel_rfl)]
          generalize hρ : rho _ _ _ vs = ρ
          have e5 : ρ (.tmp 5) = .pointer (some ⟨gc, 0, none⟩) := by rw [← hρ]; kernel_rfl
          clear hρ hV
          refine runs_val (v := .pointer (some ⟨gc, 0, none⟩)) (w' := w) ?_ ⟨Below.refl _ _, rfl⟩
          clear ht1 ht2 hS hC
          go_simp <;> (first | exact IntWalk.u64_in _ (by omega) | exact IntWalk.u32_in _ (by omega) | exact IntWalk.u16_in _ (by omega) | exact IntWalk.u8_in _ (by omega) | exact IntWalk.i64_in _ (by omega) | skip)
        case z8_2o7 =>
          intro vs w t hC ht1 ht2 hS hV
          rw [if_pos (by kernel_rfl)]
          generalize hρ : rho _ _ _ vs = ρ
          have d34 : (vs 6) = .pointer (some ⟨gc, 0, none⟩) := hV 6 (by kernel_rfl)
          have e34 : ρ (.tmp 34) = vs 6 := by rw [← hρ]; kernel_rfl
          rw [d34] at e34; clear d34
          clear hρ hV
          have c0 := blk_cell hC.2.2 0
          refine runs_val (v := .int .i32 z0) (w' := w) ?_ ⟨Below.refl _ _, rfl⟩
          clear ht1 ht2 hS hC
          go_simp
        case z8_2o8 =>
          intro vs w t hC ht1 ht2 hS hV
          rw [if_pos (by kernel_rfl)]
          generalize hρ : rho _ _ _ vs = ρ
          have d35 : (vs 7) = .int .i32 z0 := hV 7 (by kernel_rfl)
          have e35 : ρ (.tmp 35) = vs 7 := by rw [← hρ]; kernel_rfl
          rw [d35] at e35; clear d35
          clear hρ hV
          have ix := HXW.out.1
          refine runs_val (v := .int .u32 x0) (w' := w) ?_ ⟨Below.refl _ _, rfl⟩
          clear ht1 ht2 hS hC
          rw [← ix]
          clear ix
          go_simp
        case z8_2o9 =>
          intro vs w hC hS hV
          replace hS : ∃ v, Pn w gp gp (W0 ++ [pi]) v ∧ v.ownBlock ≠ some gc := hS
          rw [if_pos (by kernel_rfl)]
          generalize hρ : rho _ _ _ vs = ρ
          have d33 : (vs 5) = .pointer (some ⟨gp, 0, none⟩) := hV 5 (by kernel_rfl)
          have e33 : ρ (.tmp 33) = vs 5 := by rw [← hρ]; kernel_rfl
          rw [d33] at e33; clear d33
          have d36 : (vs 8) = .int .u32 x0 := hV 8 (by kernel_rfl)
          have e36 : ρ (.tmp 36) = vs 8 := by rw [← hρ]; kernel_rfl
          rw [d36] at e36; clear d36
          have ef39 : ρ (.func 39) = .func (.func 39) #[] #[] := by rw [← hρ]; rfl
          clear hρ hV
          obtain ⟨v, hp, hv⟩ := hS
          refine runs_call (f := 39) (args := #[.pointer (some ⟨gp, 0, none⟩), .int .u32 x0]) (w' := w) ?_ ?_
          · go_simp
          · refine (pword_any gp gp (W0 ++ [pi]) v x0 HXW.out.2.1 w hp (Nat.le_refl _) (by have := HLEN.out; simp only [List.length_append, List.length_cons, List.length_nil]; omega)).mono ?_
            rintro e w5 ⟨v', rfl, h⟩
            obtain ⟨k1, k2⟩ := h.blk hC.2.2 GNE.out.1 hv
            exact ⟨_, rfl, ⟨hC.1.trans h.2.2.2, Nat.le_trans hC.2.1 h.2.1.1, k1⟩, trivial, rfl, ⟨v', h.1, k2⟩⟩
        case z8_2o10 =>
          intro vs w t hC ht1 ht2 hS hV
          rw [if_pos (by kernel_rfl)]
          generalize hρ : rho _ _ _ vs = ρ
          have e5 : ρ (.tmp 5) = .pointer (some ⟨gc, 0, none⟩) := by rw [← hρ]; kernel_rfl
          clear hρ hV
          refine runs_val (v := .pointer (some ⟨gc, 1, none⟩)) (w' := w) ?_ ⟨Below.refl _ _, rfl⟩
          clear ht1 ht2 hS hC
          go_simp <;> (first | exact IntWalk.u64_in _ (by omega) | exact IntWalk.u32_in _ (by omega) | exact IntWalk.u16_in _ (by omega) | exact IntWalk.u8_in _ (by omega) | exact IntWalk.i64_in _ (by omega) | skip)
        case z8_2o11 =>
          intro vs w t hC ht1 ht2 hS hV
          rw [if_pos (by kernel_rfl)]
          generalize hρ : rho _ _ _ vs = ρ
          have d38 : (vs 10) = .pointer (some ⟨gc, 1, none⟩) := hV 10 (by kernel_rfl)
          have e38 : ρ (.tmp 38) = vs 10 := by rw [← hρ]; kernel_rfl
          rw [d38] at e38; clear d38
          clear hρ hV
          have c0 := blk_cell hC.2.2 1
          refine runs_val (v := .int .u32 y0) (w' := w) ?_ ⟨Below.refl _ _, rfl⟩
          clear ht1 ht2 hS hC
          go_simp
        case z8_2o12 =>
          intro vs w hC hS hV
          replace hS : ∃ v, Pn w gp gp (W0 ++ [pi] ++ lowN x0 4) v ∧ v.ownBlock ≠ some gc := hS
          rw [if_pos (by kernel_rfl)]
          generalize hρ : rho _ _ _ vs = ρ
          have d37 : (vs 9) = .pointer (some ⟨gp, 0, none⟩) := hV 9 (by kernel_rfl)
          have e37 : ρ (.tmp 37) = vs 9 := by rw [← hρ]; kernel_rfl
          rw [d37] at e37; clear d37
          have d39 : (vs 11) = .int .u32 y0 := hV 11 (by kernel_rfl)
          have e39 : ρ (.tmp 39) = vs 11 := by rw [← hρ]; kernel_rfl
          rw [d39] at e39; clear d39
          have ef39 : ρ (.func 39) = .func (.func 39) #[] #[] := by rw [← hρ]; rfl
          clear hρ hV
          obtain ⟨v, hp, hv⟩ := hS
          refine runs_call (f := 39) (args := #[.pointer (some ⟨gp, 0, none⟩), .int .u32 y0]) (w' := w) ?_ ?_
          · go_simp
          · refine (pword_any gp gp (W0 ++ [pi] ++ lowN x0 4) v y0 HXW.out.2.2 w hp (Nat.le_refl _) (by have := HLEN.out; simp only [List.length_append, List.length_cons, List.length_nil, lowN_length]; omega)).mono ?_
            rintro e w5 ⟨v', rfl, h⟩
            obtain ⟨k1, k2⟩ := h.blk hC.2.2 GNE.out.1 hv
            exact ⟨_, rfl, ⟨hC.1.trans h.2.2.2, Nat.le_trans hC.2.1 h.2.1.1, k1⟩, trivial, rfl, ⟨v', h.1, k2⟩⟩
        case z8_2e =>
          intro vs z2 hC hS hV
          replace hS : (fun (w : World) => ∃ v, Pn w gp gp (W0 ++ [pi] ++ lowN x0 4 ++ lowN y0 4) v ∧ v.ownBlock ≠ some gc) z2 := hS
          have d28 : (vs 0) = .pointer (some ⟨gd, 2, none⟩) := hV 0 (Nat.le_of_ble_eq_true rfl)
          have d29 : (vs 1) = .slice (some adp) n c := hV 1 (Nat.le_of_ble_eq_true rfl)
          have d30 : (vs 2) = .int .i64 i := hV 2 (Nat.le_of_ble_eq_true rfl)
          have d31 : (vs 3) = .pointer (some (adp.add i)) := hV 3 (Nat.le_of_ble_eq_true rfl)
          have d32 : (vs 4) = .int .u8 pi := hV 4 (Nat.le_of_ble_eq_true rfl)
          have d33 : (vs 5) = .pointer (some ⟨gp, 0, none⟩) := hV 5 (Nat.le_of_ble_eq_true rfl)
          have d34 : (vs 6) = .pointer (some ⟨gc, 0, none⟩) := hV 6 (Nat.le_of_ble_eq_true rfl)
          have d35 : (vs 7) = .int .i32 z0 := hV 7 (Nat.le_of_ble_eq_true rfl)
          have d36 : (vs 8) = .int .u32 x0 := hV 8 (Nat.le_of_ble_eq_true rfl)
          have d37 : (vs 9) = .pointer (some ⟨gp, 0, none⟩) := hV 9 (Nat.le_of_ble_eq_true rfl)
          have d38 : (vs 10) = .pointer (some ⟨gc, 1, none⟩) := hV 10 (Nat.le_of_ble_eq_true rfl)
          have d39 : (vs 11) = .int .u32 y0 := hV 11 (Nat.le_of_ble_eq_true rfl)
          have d40 : (vs 12) = .pointer (some ⟨gp, 0, none⟩) := hV 12 (Nat.le_of_ble_eq_true rfl)
          clear hV
          simp only [putAll]
          rw [d28, d29, d30, d31, d32, d33, d34, d35, d36, d37, d38, d39, d40]
          clear d28 d29 d30 d31 d32 d33 d34 d35 d36 d37 d38 d39 d40
          clear vs
          simp only [Act.put, List.setIfInBounds_toArray, List.set_cons_zero, List.set_cons_succ]
          have HE : Aside0 ((∃ v, Pn z2 gp gp (dHead tk hs n ++ dRows (P.take (i + 1)) (C.take (i + 1))) v) ∧ Below gp V0 z2) := ⟨by
            obtain ⟨v, h1, _⟩ := hS
            refine ⟨⟨v, ?_⟩, hC.1⟩
            rw [HROW.out, ← List.append_assoc, HW0.out]
            have e : W0 ++ (pi :: (lowN x0 4 ++ lowN y0 4)) = W0 ++ [pi] ++ lowN x0 4 ++ lowN y0 4 := by simp
            rw [e]; exact h1⟩
          clear hS hC HC0 HS0 GC0 GNE GSZ
          go_wp2_with fail
          go_roundw
          case rel => exact ⟨i + 1, by omega, by go_num, HE⟩
          case measure => simp [intOf]; omega
      · obtain rfl : i = m := by omega
        have d1 : decide (i < i) = false := decide_eq_false (by omega)
        obtain ⟨v, hv⟩ := H.out.1
        have HE : Aside0 (dHead tk hs n ++ dRows (P.take i) (C.take i) = dBytes tk hs P C) := ⟨by unfold dBytes; rw [List.take_of_length_le (by rw [HNP.out, HPC.out.1]; omega), List.take_of_length_le (by rw [HPC.out.2.1]; omega), HNP.out]⟩
        rw [HE.out] at hv
        have HLEN : Aside0 ((dBytes tk hs P C).length ≤ 1000000) := ⟨by
          have h1 := dRows_len P C
          have := HPC.out
          have := HNP.out
          simp only [dBytes, List.length_append, dHead, lowN_length, List.length_cons, List.length_nil]
          omega⟩
        have KEY := Aside0.mk (pbytes_any gp gp (dBytes tk hs P C) v wr hv HLEN.out)
        have HBW := Aside0.mk H.out.2
        have GSW : Aside0 (gp ≤ wr.heap.size) := ⟨Nat.le_of_lt hv.lt⟩
        clear hv H HLEN HE
        generalize hdw : dBytes tk hs P C = dw at *
        have HDW := Aside0.mk hdw
        clear hdw
        go_wp2_with fail
        refine KEY.out.mono ?_
        rintro e wz ⟨vo, rfl, k1, k2⟩
        have K1 := Aside0.mk k1
        have K2 := Aside0.mk k2
        clear k1 k2 KEY
        go_wp2_with fail
        go_ret
        rw [HGD.out]
        try rw [HDW.out]
        exact ⟨vo, rfl, Kd.R_lower K1.out (Nat.le_trans (Nat.le_of_lt GD.out) GSW.out), H1.out.bel.trans ((HBW.out.trans (K2.out.mono GSW.out)).mono (Nat.le_of_lt GD.out))⟩
end Go.Proofs.Yticpjidcgaaldaa

namespace Go.Proofs.Yticpjidcgaaldaa
open Go.RowKit Go.Proofs.YticpjidcgaaldaaW.PrintWords Go.Proofs.YticpjidcgaaldaaW.PrintLast Go.Proofs.YticpjidcgaaldaaW.PrintMore
set_option linter.unusedVariables false
set_option linter.unusedSimpArgs false

def OfR (w0 : Nat) (w' : World) (tk hs : Int) (P : List Int) (C : List S59) (v : Value) : Prop :=
  ∃ A c A2 c2, v = .agg #[.int .u32 tk, .int .u32 hs, .slice A P.length c, .slice A2 C.length c2] ∧ P.length ≤ c ∧ C.length ≤ c2 ∧
    (Kd.int .u8).R 5 w' w0 (fun _ => True) (.slice A P.length c) P ∧ k59.R 59 w' w0 (fun _ => True) (.slice A2 C.length c2) C
theorem OfR.cells {w0 : Nat} {w' : World} {tk hs : Int} {P : List Int} {C : List S59} {v : Value} (h : OfR w0 w' tk hs P C v) :
    ∃ A c A2 c2, v = .agg #[.int .u32 tk, .int .u32 hs, .slice A P.length c, .slice A2 C.length c2] ∧ P.length ≤ c ∧ C.length ≤ c2 ∧ (Kd.int .u8).C w' A P.length P ∧ k59.C w' A2 C.length C := by
  obtain ⟨A, c, A2, c2, rfl, h1, h2, h3, h4⟩ := h
  exact ⟨A, c, A2, c2, rfl, h1, h2, (Ru_C h3).2.2, (Ru_C h4).2.2⟩
end Go.Proofs.Yticpjidcgaaldaa

namespace Go.Proofs.Yticpjidcgaaldaa
open Go.RowKit Go.Proofs.YticpjidcgaaldaaW.PrintWords Go.Proofs.YticpjidcgaaldaaW.PrintLast Go.Proofs.YticpjidcgaaldaaW.PrintMore
set_option linter.unusedVariables false
set_option linter.unusedSimpArgs false

end Go.Proofs.Yticpjidcgaaldaa

namespace Go.Proofs.Yticpjidcgaaldaa
open Go.RowKit Go.Proofs.YticpjidcgaaldaaW.PrintWords Go.Proofs.YticpjidcgaaldaaW.PrintLast Go.Proofs.YticpjidcgaaldaaW.PrintMore
set_option linter.unusedVariables false
set_option linter.unusedSimpArgs false

theorem same_l0 (x y : List Int) (hl : x.length = y.length) (hx : x.length ≤ 9223372036854775807) : ∀ (d k i : Nat), i + d = x.length → d < k →
    hoodwinkref01_Same.l0 k x y (x.length : Int) (i : Int) = some (decide (x.drop i = y.drop i))
  | 0, k, i, hi, hk => by
    obtain ⟨k, rfl⟩ : ∃ q, k = q + 1 := ⟨k - 1, by omega⟩
    simp only [hoodwinkref01_Same.l0]
    rw [if_neg (by omega), List.drop_of_length_le (by omega), List.drop_of_length_le (by omega)]
    simp
  | d + 1, k, i, hi, hk => by
    obtain ⟨k, rfl⟩ : ∃ q, k = q + 1 := ⟨k - 1, by omega⟩
    have ih := same_l0 x y hl hx d k (i + 1) (by omega) (by omega)
    have hix : i < x.length := by omega
    have hiy : i < y.length := by omega
    simp only [hoodwinkref01_Same.l0]
    rw [if_pos (by omega), if_pos (by omega), if_pos (by omega), if_pos (by omega), next64 (by omega), rd_getElem hix, rd_getElem hiy]
    have e : decide (x.drop i = y.drop i) = decide (x[i] = y[i] ∧ x.drop (i + 1) = y.drop (i + 1)) :=
      decide_eq_decide.2 (by rw [List.drop_eq_getElem_cons hix, List.drop_eq_getElem_cons hiy, List.cons.injEq])
    rw [e]
    by_cases h : x[i] = y[i]
    · rw [if_pos h, ih]; exact congrArg some (decide_eq_decide.2 ⟨fun q => ⟨h, q⟩, fun q => q.2⟩)
    · rw [if_neg h, decide_eq_false (fun q => h q.1)]
theorem same_f (x y : List Int) (hx : x.length ≤ 9223372036854775807) : hoodwinkref01_Same.f (x.length + 1) x y = some (decide (x = y)) := by
  unfold hoodwinkref01_Same.f
  by_cases h : x.length = y.length
  · rw [if_pos (by omega)]
    have := same_l0 x y h hx x.length (x.length + 1) 0 (by omega) (by omega)
    simpa using this
  · rw [if_neg (by omega)]
    have : x ≠ y := fun e => h (by rw [e])
    simp [this]
theorem same_any (A B : Option Addr) (n m c c' : Nat) (x y : List Int) (w : World) (hx : (Kd.int .u8).C w A n x) (hc : n ≤ c) (hy : (Kd.int .u8).C w B m y) (hc' : m ≤ c') :
    Calls Try.prog 18 #[.slice A n c, .slice B m c'] w fun e w' => e = .returned (.bool (decide (x = y))) ∧ Below w.heap.size w w' := by
  have hm := hx.2.1
  obtain rfl := hx.1
  obtain rfl := hy.1
  exact (hoodwinkref01_Same.calls (x.length + 1) A c x B c' y _ w hx hc hy hc' (same_f x y hm)).mono fun e w' ⟨h1, h2⟩ => ⟨h1, h2.below⟩

def BvC (w : World) (l : List Int) (v : Value) : Prop := ∃ A c, v = .slice A l.length c ∧ l.length ≤ c ∧ (Kd.int .u8).C w A l.length l
theorem BvC.below {w w' : World} {l : List Int} {v : Value} (h : BvC w l v) (hb : Below w.heap.size w w') : BvC w' l v := by
  obtain ⟨A, c, h1, h2, h3⟩ := h
  exact ⟨A, c, h1, h2, Kd.C_below h3 hb⟩
theorem BvC.of_R {w : World} {b : Nat} {ok : Nat → Prop} {l : List Int} {v : Value} (h : (Kd.int .u8).R 5 w b ok v l) : BvC w l v := by
  obtain ⟨A, c, h1, h2, h3⟩ := Kd.R_reads h
  exact ⟨A, c, h1, h2, h3⟩
def DvC (w : World) (tk hs : Int) (P : List Int) (C : List S59) (v : Value) : Prop :=
  ∃ A c A2 c2, v = .agg #[.int .u32 tk, .int .u32 hs, .slice A P.length c, .slice A2 C.length c2] ∧ P.length ≤ c ∧ C.length ≤ c2 ∧ (Kd.int .u8).C w A P.length P ∧ k59.C w A2 C.length C
theorem DvC.below {w w' : World} {tk hs : Int} {P : List Int} {C : List S59} {v : Value} (h : DvC w tk hs P C v) (hb : Below w.heap.size w w') : DvC w' tk hs P C v := by
  obtain ⟨A, c, A2, c2, h1, h2, h3, h4, h5⟩ := h
  exact ⟨A, c, A2, c2, h1, h2, h3, Kd.C_below h4 hb, Kd.C_below h5 hb⟩
theorem same_told (a b : List Int) (x y : Value) (w : World) (hx : BvC w a x) (hy : BvC w b y) :
    Calls Try.prog 18 #[x, y] w fun e w' => e = .returned (.bool (decide (a = b))) ∧ Below w.heap.size w w' := by
  obtain ⟨A, c, rfl, h1, h2⟩ := hx
  obtain ⟨A2, c2, rfl, h3, h4⟩ := hy
  exact same_any A A2 _ _ c c2 a b w h2 h1 h4 h3
end Go.Proofs.Yticpjidcgaaldaa

namespace Go.Proofs.Yticpjidcgaaldaa
open Go.RowKit Go.Proofs.YticpjidcgaaldaaW.PrintWords Go.Proofs.YticpjidcgaaldaaW.PrintLast Go.Proofs.YticpjidcgaaldaaW.PrintMore
set_option linter.unusedVariables false
set_option linter.unusedSimpArgs false

end Go.Proofs.Yticpjidcgaaldaa

namespace Go.Proofs.Yticpjidcgaaldaa
open Go.RowKit Go.Proofs.YticpjidcgaaldaaW.PrintWords Go.Proofs.YticpjidcgaaldaaW.PrintLast Go.Proofs.YticpjidcgaaldaaW.PrintMore
set_option linter.unusedVariables false
set_option linter.unusedSimpArgs false

end Go.Proofs.Yticpjidcgaaldaa

namespace Go.Proofs.Yticpjidcgaaldaa
open Go.RowKit Go.Proofs.YticpjidcgaaldaaW.PrintWords Go.Proofs.YticpjidcgaaldaaW.PrintLast Go.Proofs.YticpjidcgaaldaaW.PrintMore
set_option linter.unusedVariables false
set_option linter.unusedSimpArgs false

theorem Hp.ofR {B : Nat} {w0 W W1 : World} {L : List (Nat × Obj)} {F : List (World → Prop)} {tk hs : Int} {P : List Int} {C : List S59} {v : Value} (h : Hp B w0 W L F) (hb : Below W.heap.size W W1) (hr : OfR W.heap.size W1 tk hs P C v) : Hp B w0 W1 L ((fun X => OfR B X tk hs P C v) :: F) := by
  refine h.told hb (fun W' h0 hq => ?_)
  obtain ⟨A, c, A2, c2, e, h1, h2, h3, h4⟩ := hr
  refine ⟨A, c, A2, c2, e, h1, h2, ?_, ?_⟩
  · exact Kd.R_mono (Kd.R_lower (Kd.R_step (Kd.R_mono (Kd.R_bound h3) (fun k hk => (⟨hk.2.1, hk.2.2.1⟩ : W.heap.size ≤ k ∧ k < W1.heap.size))) (fun k hk hlt => hq k hk.1 hk.2)) h.le) (fun _ _ => trivial)
  · exact Kd.R_mono (Kd.R_lower (Kd.R_step (Kd.R_mono (Kd.R_bound h4) (fun k hk => (⟨hk.2.1, hk.2.2.1⟩ : W.heap.size ≤ k ∧ k < W1.heap.size))) (fun k hk hlt => hq k hk.1 hk.2)) h.le) (fun _ _ => trivial)
theorem R_fills {α : Type} {d : Kd α} {e b B : Nat} {w w' : World} {Zc : Array Value} {F : Obj} {v : Value} {xs : List α} {T : TypeId} (h : d.R e w b (fun _ => True) v xs) (hE : d.E = []) (hT : e ≠ T) (hf : Fills B (.cells Zc T (0, 0)) F w w') : d.R e w' b (fun _ => True) v xs := by
  refine Kd.R_mono (Kd.R_step (Kd.R_bound h) (fun k hk hlt => ?_)) (fun _ _ => trivial)
  rcases hf.2 k hlt with h1 | ⟨_, h1, _⟩
  · exact h1
  · obtain ⟨_, _, _, q, hq, cells, h2⟩ := hk
    rw [hE] at hq
    obtain rfl := List.mem_singleton.1 hq
    rw [h1] at h2
    simp only [Option.some.injEq, Obj.cells.injEq] at h2
    exact absurd h2.2.1.symm hT
end Go.Proofs.Yticpjidcgaaldaa

namespace Go.Proofs.Yticpjidcgaaldaa
open Go.RowKit Go.Proofs.YticpjidcgaaldaaW.PrintWords Go.Proofs.YticpjidcgaaldaaW.PrintLast Go.Proofs.YticpjidcgaaldaaW.PrintMore
set_option linter.unusedVariables false
set_option linter.unusedSimpArgs false

end Go.Proofs.Yticpjidcgaaldaa

namespace Go.Proofs.Yticpjidcgaaldaa
open Go.RowKit Go.Proofs.YticpjidcgaaldaaW.PrintWords Go.Proofs.YticpjidcgaaldaaW.PrintLast Go.Proofs.YticpjidcgaaldaaW.PrintMore
set_option linter.unusedVariables false
set_option linter.unusedSimpArgs false

def DrC (w : World) (tk hs : Int) (P : List Int) (R : List S97) (v : Value) : Prop :=
  ∃ A c A2 c2, v = .agg #[.int .u32 tk, .int .u32 hs, .slice A P.length c, .slice A2 R.length c2] ∧ P.length ≤ c ∧ R.length ≤ c2 ∧ (Kd.int .u8).C w A P.length P ∧ k97.C w A2 R.length R
theorem DrC.below {w w' : World} {tk hs : Int} {P : List Int} {R : List S97} {v : Value} (h : DrC w tk hs P R v) (hb : Below w.heap.size w w') : DrC w' tk hs P R v := by
  obtain ⟨A, c, A2, c2, h1, h2, h3, h4, h5⟩ := h
  exact ⟨A, c, A2, c2, h1, h2, h3, Kd.C_below h4 hb, Kd.C_below h5 hb⟩
theorem rdelta_info (a b c d : Value) : (Try.prog.info? 37).map (·.size) = some (#[a, b, c, d] : Array Value).size := by kernel_rfl

end Go.Proofs.Yticpjidcgaaldaa

namespace Go.Proofs.Yticpjidcgaaldaa
open Go.RowKit Go.Proofs.YticpjidcgaaldaaW.PrintWords Go.Proofs.YticpjidcgaaldaaW.PrintLast Go.Proofs.YticpjidcgaaldaaW.PrintMore
set_option linter.unusedVariables false
set_option linter.unusedSimpArgs false

theorem C_one_cellR {w : World} {g : Nat} {x : S97} (h : w.heap[g]? = some (.cells #[.int .i32 x.f0, .int .u32 x.f1] 97 (0, 0))) : ReadsRow (fun (y : S97) cs => cs = [.int .i32 y.f0, .int .u32 y.f1]) 2 w (some ⟨g, 0, none⟩) 1 [x] := by
  refine ⟨rfl, by decide, fun _ => ⟨_, rfl, fun j p hj => ?_⟩⟩
  have hj0 : j = 0 := by
    have := (List.getElem?_eq_some_iff.1 hj).1
    simp at this; exact this
  subst hj0
  obtain rfl : x = p := by simpa using hj
  refine ⟨[.int .i32 x.f0, .int .u32 x.f1], rfl, rfl, fun i u hu => ?_⟩
  show w.cell? ((⟨g, 0, none⟩ : Addr).add (0 * 2 + i)) = _
  rw [add_plain, Nat.zero_mul, Nat.zero_add]
  match i, hu with
  | 0, hu => exact (blk_cell h 0).trans hu
  | 1, hu => exact (blk_cell h 1).trans hu
  | i + 2, hu => simp at hu
theorem rcell_full : (Try.prog.info? 97).map (fun i => (i.zero, i.size, i.bytes)) = some (some (.agg #[.int .i32 0, .int .u32 0]), 2, 8) := by kernel_rfl
end Go.Proofs.Yticpjidcgaaldaa
