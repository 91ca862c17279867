/- The walk of OrderNotes. -/
import Derived.Test.YtbfcllpjenohlaaDoorDn
import Derived.LoopTactic
import Derived.RegionTactic
import Derived.BigRegion
import Derived.Deep.RegionWith
namespace Go.Proofs.YtbfcllpjenohlaaDoor
open Go.RowKit Go.Proofs.YtbfcllpjenohlaaDoorW.PrintWords Go.Proofs.YtbfcllpjenohlaaDoorW.PrintLast Go.Proofs.YtbfcllpjenohlaaDoorW.PrintMore
set_option linter.unusedVariables false
set_option linter.unusedSimpArgs false

theorem rd_getElem {xs : List Int} {j : Nat} (h : j < xs.length) : rd xs (j : Int) = xs[j] := by
  unfold rd; rw [List.getD_eq_getElem?_getD, Int.toNat_natCast, List.getElem?_eq_getElem h]; rfl
/-- An element of a row of whole numbers that is read. -/
theorem int_at {k : IntKind} {w : World} {A : Option Addr} {n : Nat} {xs : List Int} (h : (Kd.int k).C w A n xs) (j : Nat) (hj : j < xs.length) : ∃ ad, A = some ad ∧ w.cell? (ad.add j) = some (.int k xs[j]) := by
  have hn := h.1
  obtain ⟨ad, e, hc⟩ := Kd.at_int h (j : Int) (by omega) (by omega)
  rw [rd_getElem hj, Int.toNat_natCast] at hc
  exact ⟨ad, e, hc⟩

set_option maxRecDepth 100000 in
set_option maxHeartbeats 4000000 in
theorem notes_walk (next b : Int) (A : Option Addr) (n c : Nat) (l : List Int) (far : Bool) (w : World) (hT : TabAt w) (hx : 0 ≤ next ∧ next < 65536) (hb' : 0 ≤ b ∧ b < 4294967296) (hr : (Kd.int .u16).C w A n l) (hc : n ≤ c) (hl : ∀ x ∈ l, 0 ≤ x ∧ x < 65536) :
    Calls Tryd.prog 7 #[.int .u16 next, .int .u32 b, .slice A n c, .bool far] w fun e w' => e = .returned (.bool true) ∧ Below w.heap.size w w' := by
  obtain ⟨b, rfl⟩ := Int.eq_ofNat_of_zero_le hb'.1
  have hbb : b < 4294967296 := by omega
  have HT := Aside0.mk hT
  have HR := Aside0.mk hr
  have HL := Aside0.mk hl
  have HX := Aside0.mk hx
  have HBB := Aside0.mk hbb
  have hz := zero_acks
  have HI := fun y f => Aside0.mk (came_info y f)
  have HO := fun y f => Aside0.mk (came_one y f)
  clear hT hr hl hx hb' hbb
  go_enter Tryd.func7, Tryd.ntmps7
  go_wp2_with fail
  refine (awake_any _ HT.out).mono ?_
  rintro e w1 ⟨rfl, hb1⟩
  have B1 := Aside0.mk (below_alloc hb1 (.cells #[.int .u16 next, .int .u32 b] 35))
  have A1 := Aside0.mk (Two.new w1 (next, b))
  have hga : w.heap.size ≤ w1.heap.size := hb1.size
  clear hb1
  go_wp2_with fail
  refine (of_any next b HBB.out _).mono ?_
  rintro e w2 ⟨rfl, hb2⟩
  have hgx : w1.heap.size < w2.heap.size := by have := hb2.size; simp at this; omega
  have B2 := Aside0.mk (below_alloc (below_step B1.out hb2) (.cells (came 0 fun _ => false) 44))
  have A2 := Aside0.mk (blk_alloc (A1.out.below hb2) (.cells (came 0 fun _ => false) 44))
  have X2 : Aside0 (Fn (w2.alloc (.cells (came 0 fun _ => false) 44)) w2.heap.size 0 (fun _ => false)) := ⟨blk_new _ _⟩
  clear B1 A1 hb2
  go_wp2_with (first | (refine wpList_store_row rfl 44 (.tmp 10) (.tmp 28) rfl w2.heap.size _ rfl rfl 44 _ X2.out (HI _ _).out (by rw [came_size, came_size]) (HO _ _).out ?_))
  clear hz
  have B3 := Aside0.mk (below_setRow B2.out (g := w2.heap.size) (by omega) (came next b.testBit))
  have A3 : Aside0 (Two ((w2.alloc (.cells (came 0 fun _ => false) 44)).setRow w2.heap.size (came next b.testBit)) w1.heap.size (next, b)) := ⟨(setRow_other _ _ _ _ (by omega)).trans A2.out⟩
  have X3 : Aside0 (Fn ((w2.alloc (.cells (came 0 fun _ => false) 44)).setRow w2.heap.size (came next b.testBit)) w2.heap.size next b.testBit) := ⟨setRow_heap _ _ _ _ _ _ X2.out⟩
  generalize (w2.alloc (.cells (came 0 fun _ => false) 44)).setRow w2.heap.size (came next b.testBit) = w3 at *
  have hgx2 : w.heap.size ≤ w2.heap.size := by omega
  have hne : w1.heap.size ≠ w2.heap.size := by omega
  clear B2 A2 X2 hgx
  generalize w1.heap.size = ga at *
  generalize w2.heap.size = gx at *
  go_loopw [31] (fun v31 wr => ∃ (j : Nat) (p : Int × Nat), j ≤ l.length ∧ v31 = .int .i64 j ∧ Aside0 (Two wr ga p ∧ Fn wr gx p.1 p.2.testBit ∧ (0 ≤ p.1 ∧ p.1 < 65536) ∧ p.2 < 4294967296 ∧ Below w.heap.size w wr)) (fun v31 _ => l.length - (intOf v31).toNat)
  case atStart => exact ⟨0, (next, b), by omega, rfl, ⟨A3.out, X3.out, HX.out, HBB.out, B3.out⟩⟩
  case round =>
    clear A3 X3 B3
    obtain ⟨j, ⟨x, b2⟩, hj, rfl, K⟩ := hrel
    have hn : l.length = n := HR.out.1
    by_cases hlt : j < l.length
    · obtain ⟨ad, hA, hcell⟩ := int_at (Kd.C_below HR.out K.out.2.2.2.2) j hlt
      subst hA
      have d1 : decide (j < n) = true := decide_eq_true (by omega)
      by_cases h80 : 80 ≤ j
      · have d2 : decide ((80 : Int) ≤ j) = true := decide_eq_true (by omega)
        have hj80 : (80 : Int) ≤ j := by omega
        go_wp2_with fail
        go_ret
        exact ⟨rfl, K.out.2.2.2.2⟩
      · have d2 : decide ((80 : Int) ≤ j) = false := decide_eq_false (by omega)
        have hj80 : ¬ (80 : Int) ≤ j := by omega
        have hs := HL.out _ (List.getElem_mem hlt)
        have hx0 := K.out.1.c0
        have hx1 := K.out.1.c1
        have hy0 := K.out.2.1.c0
        have e1 : (l[j]).tmod 40 = l[j] % 40 := Int.tmod_eq_emod_of_nonneg hs.1
        generalize l[j] = s0 at *
        obtain ⟨s, hs1, hs2⟩ : ∃ s : Int, s = (if far then s0 else IntKind.u16.wrap (IntKind.u16.wrap (x + s0 % 40) - 4)) ∧ 0 ≤ s ∧ s < 65536 := by
          refine ⟨_, rfl, ?_⟩
          cases far
          · simp only [IntKind.wrap_u16]; simp; omega
          · simpa using hs
        obtain ⟨⟨⟨x3, b3⟩, ok⟩, hN⟩ : ∃ R, noteN x b2 s = R := ⟨_, rfl⟩
        obtain ⟨had, hH⟩ : ∃ R, hasN x b2 s = R := ⟨_, rfl⟩
        have F1 := note_lt (x := x) (s := s) K.out.2.2.2.1
        have F2 := note_next (s := s) (b := b2) K.out.2.2.1
        have F3 : ok = true → had = false := fun h => by
          cases hd : had with
          | false => rfl
          | true => rw [hd] at hH; have := note_again hH; rw [hN] at this; rw [h] at this; cases this
        have F4 : ok = true → hasN x3 b3 s = true := fun h => by
          have := note_has (x := x) (s := s) K.out.2.2.2.1 (by rw [hN]; exact h)
          rw [hN] at this; exact this
        rw [hN] at F1 F2
        simp only at F1 F2
        have HN := Aside0.mk hN
        have HH := Aside0.mk hH
        have HF := Aside0.mk (And.intro F1 (And.intro F2 (And.intro F3 F4)))
        have HS := Aside0.mk hs2
        clear hN hH F1 F2 F3 F4 hs2 hs
        cases far
        all_goals
          simp only [if_true, if_false, Bool.false_eq_true] at hs1
          go_wp2_with fail
          rw [← hs1]
          clear hs1 e1 hcell hx0 hx1 hy0
          refine (has_any x s b2 K.out.2.2.2.1 _).mono ?_
          rintro e v1 ⟨rfl, hb1⟩
          rw [HH.out]
          have A1 := Aside0.mk (K.out.1.below hb1)
          have X1 : Aside0 (Fn v1 gx x b2.testBit) := ⟨blk_below K.out.2.1 hb1⟩
          have B1 := Aside0.mk (below_step K.out.2.2.2.2 hb1)
          clear hb1
          go_wp2_with (first | (refine wpList_load_row rfl 44 (.tmp 10) rfl gx rfl 44 _ (0, 0) _ X1.out Tryd.underlying44 rfl (HI _ _).out ?_))
          refine (refhas_any x s b2 K.out.2.2.1 HS.out _).mono ?_
          rintro e v2 ⟨rfl, hb2⟩
          rw [HH.out]
          have A2 := Aside0.mk (A1.out.below hb2)
          have X2 : Aside0 (Fn v2 gx x b2.testBit) := ⟨blk_below X1.out hb2⟩
          have B2 := Aside0.mk (below_step B1.out hb2)
          clear hb2 A1 X1 B1
          have a0 := A2.out.c0
          have a1 := A2.out.c1
          go_wp2_with fail
          refine (note_any x s b2 K.out.2.2.2.1 _ (HT.out.below B2.out)).mono ?_
          rintro e v3 ⟨rfl, hb3⟩
          rw [HN.out]
          unfold acks
          have A3 : Aside0 (Two (v3.alloc (.cells #[.int .u16 x3, .int .u32 b3] 35)) ga (x, b2)) := ⟨blk_alloc (A2.out.below hb3) _⟩
          have X3 : Aside0 (Fn (v3.alloc (.cells #[.int .u16 x3, .int .u32 b3] 35)) gx x b2.testBit) := ⟨blk_alloc (blk_below X2.out hb3) _⟩
          have P3 := Aside0.mk (Two.new v3 (x3, b3))
          have B3 := Aside0.mk (below_alloc (below_step B2.out hb3) (.cells #[.int .u16 x3, .int .u32 b3] 35))
          have hgp : ga < v3.heap.size ∧ gx < v3.heap.size := ⟨blk_lt (A2.out.below hb3), blk_lt (blk_below X2.out hb3)⟩
          clear a0 a1 hb3 A2 X2 B2
          have HG := Aside0.mk hgp
          clear hgp
          go_wp2_with (first | (refine wpList_load_row rfl 44 (.tmp 10) rfl gx rfl 44 _ (0, 0) _ X3.out Tryd.underlying44 rfl (HI _ _).out ?_))
          refine (refnote_any x s b2 K.out.2.2.2.1 K.out.2.2.1 HS.out _).mono ?_
          rintro e v4 ⟨rfl, hb4⟩
          rw [HN.out]
          have hz := zero_acks
          have hgq : v3.heap.size < v4.heap.size := by have := hb4.size; simp at this; omega
          have A4 : Aside0 (Two (v4.alloc (.cells (came 0 fun _ => false) 44)) ga (x, b2)) := ⟨blk_alloc (Two.below A3.out hb4) _⟩
          have X4 : Aside0 (Fn (v4.alloc (.cells (came 0 fun _ => false) 44)) gx x b2.testBit) := ⟨blk_alloc (blk_below X3.out hb4) _⟩
          have P4 : Aside0 (Two (v4.alloc (.cells (came 0 fun _ => false) 44)) v3.heap.size (x3, b3)) := ⟨blk_alloc (Two.below P3.out hb4) _⟩
          have Y4 : Aside0 (Fn (v4.alloc (.cells (came 0 fun _ => false) 44)) v4.heap.size 0 (fun _ => false)) := ⟨blk_new _ _⟩
          have B4 := Aside0.mk (below_alloc (below_step B3.out hb4) (.cells (came 0 fun _ => false) 44))
          clear hb4 A3 X3 P3 B3
          go_wp2_with (first | (refine wpList_store_row rfl 44 (.tmp 16) (.tmp 64) rfl v4.heap.size _ rfl rfl 44 _ Y4.out (HI _ _).out (by rw [came_size, came_size]) (HO _ _).out ?_))
          clear hz
          obtain ⟨v5, hv5⟩ : ∃ v5, (v4.alloc (.cells (came 0 fun _ => false) 44)).setRow v4.heap.size (came x3 b3.testBit) = v5 := ⟨_, rfl⟩
          have A5 : Aside0 (Two v5 ga (x, b2)) := ⟨by rw [← hv5]; exact (setRow_other _ _ _ _ (by have := HG.out; omega)).trans A4.out⟩
          have X5 : Aside0 (Fn v5 gx x b2.testBit) := ⟨by rw [← hv5]; exact (setRow_other _ _ _ _ (by have := HG.out; omega)).trans X4.out⟩
          have P5 : Aside0 (Two v5 v3.heap.size (x3, b3)) := ⟨by rw [← hv5]; exact (setRow_other _ _ _ _ (by omega)).trans P4.out⟩
          have Y5 : Aside0 (Fn v5 v4.heap.size x3 b3.testBit) := ⟨by rw [← hv5]; exact setRow_heap _ _ _ _ _ _ Y4.out⟩
          have B5 : Aside0 (Below w.heap.size w v5) := ⟨by rw [← hv5]; exact below_setRow B4.out (by have := HG.out; omega) _⟩
          rw [hv5]
          clear hv5 A4 X4 P4 Y4 B4
          have HG2 := Aside0.mk (And.intro HG.out hgq)
          clear HG hgq
          generalize v3.heap.size = gp at *
          generalize v4.heap.size = gq at *
          cases ok
          case false =>
            refine region_grown (W := v5)
              [fun (w : World) (v : Value) => v = .bool false,
   fun (w : World) (v : Value) => v = .bool false,
   fun (w : World) (v : Value) => v = .bool false,
   fun (w : World) (v : Value) => v = .bool false,
   fun (w : World) (v : Value) => v = .pointer (some ⟨gp, 0, none⟩),
   fun (w : World) (v : Value) => v = .int .u16 x3,
   fun (w : World) (v : Value) => v = .pointer (some ⟨gq, 0, none⟩),
   fun (w : World) (v : Value) => v = .int .u16 x3,
   fun (w : World) (v : Value) => v = .bool false,
   fun (w : World) (v : Value) => v = .bool false,
   fun (w : World) (v : Value) => v = .bool false,
   fun (w : World) (v : Value) => v = .pointer (some ⟨gp, 1, none⟩),
   fun (w : World) (v : Value) => v = .int .u32 b3,
   fun (w : World) (v : Value) => v = .agg (came x3 b3.testBit),
   fun (w : World) (v : Value) => v = .int .u32 b3,
   fun (w : World) (v : Value) => v = .bool false,
   fun (w : World) (v : Value) => v = .bool false,
   fun (w : World) (v : Value) => v = .bool false,
   fun (w : World) (v : Value) => v = .bool false,
   fun (w : World) (v : Value) => v = .bool false,
   fun (w : World) (v : Value) => v = undef,
   fun (w : World) (v : Value) => v = undef,
   fun (w : World) (v : Value) => v = undef,
   fun (w : World) (v : Value) => v = undef,
   fun (w : World) (v : Value) => v = undef,
   fun (w : World) (v : Value) => v = undef,
   fun (w : World) (v : Value) => v = undef,
   fun (w : World) (v : Value) => v = .bool false,
   fun (w : World) (v : Value) => v = .bool false]
              (fun j => if j = 3 then some false else if j = 10 then some false else if j = 17 then some false else if j = 19 then some false else if j = 21 then none else none)
              [(0, some 66), (1, some 67), (2, some 68), (3, some 69), (4, some 70), (5, some 71), (6, some 72), (7, some 73), (8, some 74), (9, some 75), (10, some 76), (11, some 77), (12, some 78), (13, some 79), (14, some 80), (15, some 81), (16, some 82), (17, some 83), (18, some 84), (19, some 85), (20, some 86), (21, some 87), (22, some 88), (23, some 89), (24, some 90), (25, some 91), (26, some 92), (27, some 93), (28, some 94)]
              [3, 10, 17, 19, 21]
              (by kernel_rfl) (by kernel_rfl) (by kernel_rfl) (by kernel_rfl) ?r16_1g ?r16_1s ⟨?r16_1o0, ?r16_1o1, ?r16_1o2, ?r16_1o3, ?r16_1o4, ?r16_1o5, ?r16_1o6, ?r16_1o7, ?r16_1o8, ?r16_1o9, ?r16_1o10, ?r16_1o11, ?r16_1o12, ?r16_1o13, ?r16_1o14, ?r16_1o15, ?r16_1o16, ?r16_1o17, ?r16_1o18, ?r16_1o19, ?r16_1o20, ?r16_1o21, ?r16_1o22, ?r16_1o23, ?r16_1o24, ?r16_1o25, ?r16_1o26, ?r16_1o27, ?r16_1o28, trivial⟩ ?r16_1e
            case r16_1g =>
              intro j hj w v hv
              simp only [List.mem_cons, List.not_mem_nil, or_false] at hj
              rcases hj with rfl | rfl | rfl | rfl | rfl
              · have hv' : v = .bool false := hv; rw [hv']; rfl
              · have hv' : v = .bool false := hv; rw [hv']; rfl
              · have hv' : v = .bool false := hv; rw [hv']; rfl
              · have hv' : v = .bool false := hv; rw [hv']; rfl
              · have hv' : v = undef := hv; rw [hv']; rfl
            case r16_1s =>
              refine ⟨(fun w w' v hb h => h), (fun w w' v hb h => h), (fun w w' v hb h => h), (fun w w' v hb h => h), (fun w w' v hb h => h), (fun w w' v hb h => h), (fun w w' v hb h => h), (fun w w' v hb h => h), (fun w w' v hb h => h), (fun w w' v hb h => h), (fun w w' v hb h => h), (fun w w' v hb h => h), (fun w w' v hb h => h), (fun w w' v hb h => h), (fun w w' v hb h => h), (fun w w' v hb h => h), (fun w w' v hb h => h), (fun w w' v hb h => h), (fun w w' v hb h => h), (fun w w' v hb h => h), (fun w w' v hb h => h), (fun w w' v hb h => h), (fun w w' v hb h => h), (fun w w' v hb h => h), (fun w w' v hb h => h), (fun w w' v hb h => h), (fun w w' v hb h => h), (fun w w' v hb h => h), (fun w w' v hb h => h), trivial⟩
            case r16_1o0 =>
              intro vs w hb hV
              rw [if_pos (by kernel_rfl)]
              generalize hρ : rho _ _ _ vs = ρ
              have e15 : ρ (.tmp 15) = .bool false := by rw [← hρ]; kernel_rfl
              clear hρ hV
              refine runs_val (v := .bool false) (w' := w) ?_ ⟨Below.refl _ _, rfl⟩
              go_simp <;> (first | exact IntWalk.u64_in _ (by omega) | exact IntWalk.u32_in _ (by omega) | exact IntWalk.u16_in _ (by omega) | exact IntWalk.u8_in _ (by omega) | exact IntWalk.i64_in _ (by omega) | skip)
            case r16_1o1 =>
              intro vs w hb hV
              rw [if_pos (by kernel_rfl)]
              generalize hρ : rho _ _ _ vs = ρ
              have e17 : ρ (.tmp 17) = .bool false := by rw [← hρ]; kernel_rfl
              clear hρ hV
              refine runs_val (v := .bool false) (w' := w) ?_ ⟨Below.refl _ _, rfl⟩
              go_simp <;> (first | exact IntWalk.u64_in _ (by omega) | exact IntWalk.u32_in _ (by omega) | exact IntWalk.u16_in _ (by omega) | exact IntWalk.u8_in _ (by omega) | exact IntWalk.i64_in _ (by omega) | skip)
            case r16_1o2 =>
              intro vs w hb hV
              rw [if_pos (by kernel_rfl)]
              generalize hρ : rho _ _ _ vs = ρ
              have d66 : (vs 0) = .bool false := hV 0 (by kernel_rfl)
              have e66 : ρ (.tmp 66) = vs 0 := by rw [← hρ]; kernel_rfl
              rw [d66] at e66; clear d66
              have d67 : (vs 1) = .bool false := hV 1 (by kernel_rfl)
              have e67 : ρ (.tmp 67) = vs 1 := by rw [← hρ]; kernel_rfl
              rw [d67] at e67; clear d67
              clear hρ hV
              refine runs_val (v := .bool false) (w' := w) ?_ ⟨Below.refl _ _, rfl⟩
              go_simp <;> (first | exact IntWalk.u64_in _ (by omega) | exact IntWalk.u32_in _ (by omega) | exact IntWalk.u16_in _ (by omega) | exact IntWalk.u8_in _ (by omega) | exact IntWalk.i64_in _ (by omega) | skip)
            case r16_1o3 =>
              intro vs w hb hV
              rw [if_pos (by kernel_rfl)]
              generalize hρ : rho _ _ _ vs = ρ
              have d68 : (vs 2) = .bool false := hV 2 (by kernel_rfl)
              have e68 : ρ (.tmp 68) = vs 2 := by rw [← hρ]; kernel_rfl
              clear hρ hV
              refine runs_val (v := vs 2) (w' := w) ?_ ⟨Below.refl _ _, d68⟩
              go_simp
            case r16_1o4 =>
              intro vs w hb hV
              rw [if_pos (by kernel_rfl)]
              generalize hρ : rho _ _ _ vs = ρ
              have e14 : ρ (.tmp 14) = .pointer (some ⟨gp, 0, none⟩) := by rw [← hρ]; kernel_rfl
              clear hρ hV
              refine runs_val (v := .pointer (some ⟨gp, 0, none⟩)) (w' := w) ?_ ⟨Below.refl _ _, rfl⟩
              go_simp <;> (first | exact IntWalk.u64_in _ (by omega) | exact IntWalk.u32_in _ (by omega) | exact IntWalk.u16_in _ (by omega) | exact IntWalk.u8_in _ (by omega) | exact IntWalk.i64_in _ (by omega) | skip)
            case r16_1o5 =>
              intro vs w hb hV
              rw [if_pos (by kernel_rfl)]
              generalize hρ : rho _ _ _ vs = ρ
              have d70 : (vs 4) = .pointer (some ⟨gp, 0, none⟩) := hV 4 (by kernel_rfl)
              have e70 : ρ (.tmp 70) = vs 4 := by rw [← hρ]; kernel_rfl
              rw [d70] at e70; clear d70
              clear hρ hV
              have c0 := (Two.below P5.out hb).c0
              refine runs_val (v := .int .u16 x3) (w' := w) ?_ ⟨Below.refl _ _, rfl⟩
              go_simp
            case r16_1o6 =>
              intro vs w hb hV
              rw [if_pos (by kernel_rfl)]
              generalize hρ : rho _ _ _ vs = ρ
              have e16 : ρ (.tmp 16) = .pointer (some ⟨gq, 0, none⟩) := by rw [← hρ]; kernel_rfl
              clear hρ hV
              refine runs_val (v := .pointer (some ⟨gq, 0, none⟩)) (w' := w) ?_ ⟨Below.refl _ _, rfl⟩
              go_simp <;> (first | exact IntWalk.u64_in _ (by omega) | exact IntWalk.u32_in _ (by omega) | exact IntWalk.u16_in _ (by omega) | exact IntWalk.u8_in _ (by omega) | exact IntWalk.i64_in _ (by omega) | skip)
            case r16_1o7 =>
              intro vs w hb hV
              rw [if_pos (by kernel_rfl)]
              generalize hρ : rho _ _ _ vs = ρ
              have d72 : (vs 6) = .pointer (some ⟨gq, 0, none⟩) := hV 6 (by kernel_rfl)
              have e72 : ρ (.tmp 72) = vs 6 := by rw [← hρ]; kernel_rfl
              rw [d72] at e72; clear d72
              clear hρ hV
              have c0 := Fn.c0 (blk_below Y5.out hb)
              refine runs_val (v := .int .u16 x3) (w' := w) ?_ ⟨Below.refl _ _, rfl⟩
              go_simp
            case r16_1o8 =>
              intro vs w hb hV
              rw [if_pos (by kernel_rfl)]
              generalize hρ : rho _ _ _ vs = ρ
              have d71 : (vs 5) = .int .u16 x3 := hV 5 (by kernel_rfl)
              have e71 : ρ (.tmp 71) = vs 5 := by rw [← hρ]; kernel_rfl
              rw [d71] at e71; clear d71
              have d73 : (vs 7) = .int .u16 x3 := hV 7 (by kernel_rfl)
              have e73 : ρ (.tmp 73) = vs 7 := by rw [← hρ]; kernel_rfl
              rw [d73] at e73; clear d73
              clear hρ hV
              refine runs_val (v := .bool false) (w' := w) ?_ ⟨Below.refl _ _, rfl⟩
              go_simp <;> (first | exact IntWalk.u64_in _ (by omega) | exact IntWalk.u32_in _ (by omega) | exact IntWalk.u16_in _ (by omega) | exact IntWalk.u8_in _ (by omega) | exact IntWalk.i64_in _ (by omega) | skip)
            case r16_1o9 =>
              intro vs w hb hV
              rw [if_pos (by kernel_rfl)]
              generalize hρ : rho _ _ _ vs = ρ
              have d69 : (vs 3) = .bool false := hV 3 (by kernel_rfl)
              have e69 : ρ (.tmp 69) = vs 3 := by rw [← hρ]; kernel_rfl
              rw [d69] at e69; clear d69
              have d74 : (vs 8) = .bool false := hV 8 (by kernel_rfl)
              have e74 : ρ (.tmp 74) = vs 8 := by rw [← hρ]; kernel_rfl
              rw [d74] at e74; clear d74
              have econ : ∀ v : Value, ρ (.const v) = v := fun v => by rw [← hρ]; rfl
              clear hρ hV
              refine runs_val (v := .bool false) (w' := w) ?_ ⟨Below.refl _ _, rfl⟩
              go_simp <;> (first | exact IntWalk.u64_in _ (by omega) | exact IntWalk.u32_in _ (by omega) | exact IntWalk.u16_in _ (by omega) | exact IntWalk.u8_in _ (by omega) | exact IntWalk.i64_in _ (by omega) | skip)
            case r16_1o10 =>
              intro vs w hb hV
              rw [if_pos (by kernel_rfl)]
              generalize hρ : rho _ _ _ vs = ρ
              have d75 : (vs 9) = .bool false := hV 9 (by kernel_rfl)
              have e75 : ρ (.tmp 75) = vs 9 := by rw [← hρ]; kernel_rfl
              clear hρ hV
              refine runs_val (v := vs 9) (w' := w) ?_ ⟨Below.refl _ _, d75⟩
              go_simp
            case r16_1o11 =>
              intro vs w hb hV
              rw [if_pos (by kernel_rfl)]
              generalize hρ : rho _ _ _ vs = ρ
              have e14 : ρ (.tmp 14) = .pointer (some ⟨gp, 0, none⟩) := by rw [← hρ]; kernel_rfl
              clear hρ hV
              refine runs_val (v := .pointer (some ⟨gp, 1, none⟩)) (w' := w) ?_ ⟨Below.refl _ _, rfl⟩
              go_simp <;> (first | exact IntWalk.u64_in _ (by omega) | exact IntWalk.u32_in _ (by omega) | exact IntWalk.u16_in _ (by omega) | exact IntWalk.u8_in _ (by omega) | exact IntWalk.i64_in _ (by omega) | skip)
            case r16_1o12 =>
              intro vs w hb hV
              rw [if_pos (by kernel_rfl)]
              generalize hρ : rho _ _ _ vs = ρ
              have d77 : (vs 11) = .pointer (some ⟨gp, 1, none⟩) := hV 11 (by kernel_rfl)
              have e77 : ρ (.tmp 77) = vs 11 := by rw [← hρ]; kernel_rfl
              rw [d77] at e77; clear d77
              clear hρ hV
              have c0 := (Two.below P5.out hb).c1
              refine runs_val (v := .int .u32 b3) (w' := w) ?_ ⟨Below.refl _ _, rfl⟩
              go_simp
            case r16_1o13 =>
              intro vs w hb hV
              rw [if_pos (by kernel_rfl)]
              generalize hρ : rho _ _ _ vs = ρ
              have e16 : ρ (.tmp 16) = .pointer (some ⟨gq, 0, none⟩) := by rw [← hρ]; kernel_rfl
              clear hρ hV
              exact runs_load 44 (.tmp 16) rfl gq e16 44 (came x3 b3.testBit) (0, 0) _ (blk_below Y5.out hb) Tryd.underlying44 rfl (HI _ _).out ⟨Below.refl _ _, rfl⟩
            case r16_1o14 =>
              intro vs w hb hV
              rw [if_pos (by kernel_rfl)]
              generalize hρ : rho _ _ _ vs = ρ
              have d79 : (vs 13) = .agg (came x3 b3.testBit) := hV 13 (by kernel_rfl)
              have e79 : ρ (.tmp 79) = vs 13 := by rw [← hρ]; kernel_rfl
              rw [d79] at e79; clear d79
              have ef18 : ρ (.func 18) = .func (.func 18) #[] #[] := by rw [← hρ]; rfl
              clear hρ hV
              refine runs_call (f := 18) (args := #[.agg (came x3 b3.testBit)]) (w' := w) ?_ ?_
              · go_simp
              · refine (bits_any x3 b3 HF.out.1 _).mono ?_
                rintro e w5 ⟨rfl, hb5⟩
                exact ⟨_, rfl, hb5, rfl⟩
            case r16_1o15 =>
              intro vs w hb hV
              rw [if_pos (by kernel_rfl)]
              generalize hρ : rho _ _ _ vs = ρ
              have d78 : (vs 12) = .int .u32 b3 := hV 12 (by kernel_rfl)
              have e78 : ρ (.tmp 78) = vs 12 := by rw [← hρ]; kernel_rfl
              rw [d78] at e78; clear d78
              have d80 : (vs 14) = .int .u32 b3 := hV 14 (by kernel_rfl)
              have e80 : ρ (.tmp 80) = vs 14 := by rw [← hρ]; kernel_rfl
              rw [d80] at e80; clear d80
              clear hρ hV
              refine runs_val (v := .bool false) (w' := w) ?_ ⟨Below.refl _ _, rfl⟩
              go_simp <;> (first | exact IntWalk.u64_in _ (by omega) | exact IntWalk.u32_in _ (by omega) | exact IntWalk.u16_in _ (by omega) | exact IntWalk.u8_in _ (by omega) | exact IntWalk.i64_in _ (by omega) | skip)
            case r16_1o16 =>
              intro vs w hb hV
              rw [if_pos (by kernel_rfl)]
              generalize hρ : rho _ _ _ vs = ρ
              have d76 : (vs 10) = .bool false := hV 10 (by kernel_rfl)
              have e76 : ρ (.tmp 76) = vs 10 := by rw [← hρ]; kernel_rfl
              rw [d76] at e76; clear d76
              have d81 : (vs 15) = .bool false := hV 15 (by kernel_rfl)
              have e81 : ρ (.tmp 81) = vs 15 := by rw [← hρ]; kernel_rfl
              rw [d81] at e81; clear d81
              have econ : ∀ v : Value, ρ (.const v) = v := fun v => by rw [← hρ]; rfl
              clear hρ hV
              refine runs_val (v := .bool false) (w' := w) ?_ ⟨Below.refl _ _, rfl⟩
              go_simp <;> (first | exact IntWalk.u64_in _ (by omega) | exact IntWalk.u32_in _ (by omega) | exact IntWalk.u16_in _ (by omega) | exact IntWalk.u8_in _ (by omega) | exact IntWalk.i64_in _ (by omega) | skip)
            case r16_1o17 =>
              intro vs w hb hV
              rw [if_pos (by kernel_rfl)]
              generalize hρ : rho _ _ _ vs = ρ
              have d82 : (vs 16) = .bool false := hV 16 (by kernel_rfl)
              have e82 : ρ (.tmp 82) = vs 16 := by rw [← hρ]; kernel_rfl
              clear hρ hV
              refine runs_val (v := vs 16) (w' := w) ?_ ⟨Below.refl _ _, d82⟩
              go_simp
            case r16_1o18 =>
              intro vs w hb hV
              rw [if_pos (by kernel_rfl)]
              generalize hρ : rho _ _ _ vs = ρ
              have e15 : ρ (.tmp 15) = .bool false := by rw [← hρ]; kernel_rfl
              clear hρ hV
              refine runs_val (v := .bool false) (w' := w) ?_ ⟨Below.refl _ _, rfl⟩
              go_simp <;> (first | exact IntWalk.u64_in _ (by omega) | exact IntWalk.u32_in _ (by omega) | exact IntWalk.u16_in _ (by omega) | exact IntWalk.u8_in _ (by omega) | exact IntWalk.i64_in _ (by omega) | skip)
            case r16_1o19 =>
              intro vs w hb hV
              rw [if_pos (by kernel_rfl)]
              generalize hρ : rho _ _ _ vs = ρ
              have d84 : (vs 18) = .bool false := hV 18 (by kernel_rfl)
              have e84 : ρ (.tmp 84) = vs 18 := by rw [← hρ]; kernel_rfl
              clear hρ hV
              refine runs_val (v := vs 18) (w' := w) ?_ ⟨Below.refl _ _, d84⟩
              go_simp
            case r16_1o20 =>
              intro vs w hb hV
              (rw [if_neg (by decide)]) <;> exact rfl
            case r16_1o21 =>
              intro vs w hb hV
              (rw [if_neg (by decide)]) <;> exact rfl
            case r16_1o22 =>
              intro vs w hb hV
              (rw [if_neg (by decide)]) <;> exact rfl
            case r16_1o23 =>
              intro vs w hb hV
              (rw [if_neg (by decide)]) <;> exact rfl
            case r16_1o24 =>
              intro vs w hb hV
              (rw [if_neg (by decide)]) <;> exact rfl
            case r16_1o25 =>
              intro vs w hb hV
              (rw [if_neg (by decide)]) <;> exact rfl
            case r16_1o26 =>
              intro vs w hb hV
              (rw [if_neg (by decide)]) <;> exact rfl
            case r16_1o27 =>
              intro vs w hb hV
              rw [if_pos (by kernel_rfl)]
              generalize hρ : rho _ _ _ vs = ρ
              have d85 : (vs 19) = .bool false := hV 19 (by kernel_rfl)
              have e85 : ρ (.tmp 85) = vs 19 := by rw [← hρ]; kernel_rfl
              rw [d85] at e85; clear d85
              have d92 : (vs 26) = undef := hV 26 (by kernel_rfl)
              have e92 : ρ (.tmp 92) = vs 26 := by rw [← hρ]; kernel_rfl
              rw [d92] at e92; clear d92
              have econ : ∀ v : Value, ρ (.const v) = v := fun v => by rw [← hρ]; rfl
              clear hρ hV
              refine runs_val (v := .bool false) (w' := w) ?_ ⟨Below.refl _ _, rfl⟩
              go_simp <;> (first | exact IntWalk.u64_in _ (by omega) | exact IntWalk.u32_in _ (by omega) | exact IntWalk.u16_in _ (by omega) | exact IntWalk.u8_in _ (by omega) | exact IntWalk.i64_in _ (by omega) | skip)
            case r16_1o28 =>
              intro vs w hb hV
              rw [if_pos (by kernel_rfl)]
              generalize hρ : rho _ _ _ vs = ρ
              have d83 : (vs 17) = .bool false := hV 17 (by kernel_rfl)
              have e83 : ρ (.tmp 83) = vs 17 := by rw [← hρ]; kernel_rfl
              rw [d83] at e83; clear d83
              have d93 : (vs 27) = .bool false := hV 27 (by kernel_rfl)
              have e93 : ρ (.tmp 93) = vs 27 := by rw [← hρ]; kernel_rfl
              rw [d93] at e93; clear d93
              have econ : ∀ v : Value, ρ (.const v) = v := fun v => by rw [← hρ]; rfl
              clear hρ hV
              refine runs_val (v := .bool false) (w' := w) ?_ ⟨Below.refl _ _, rfl⟩
              go_simp <;> (first | exact IntWalk.u64_in _ (by omega) | exact IntWalk.u32_in _ (by omega) | exact IntWalk.u16_in _ (by omega) | exact IntWalk.u8_in _ (by omega) | exact IntWalk.i64_in _ (by omega) | skip)
            case r16_1e =>
              intro vs v6 hb6 hV
              have d66 : (vs 0) = .bool false := hV 0 (Nat.le_of_ble_eq_true rfl)
              have d67 : (vs 1) = .bool false := hV 1 (Nat.le_of_ble_eq_true rfl)
              have d68 : (vs 2) = .bool false := hV 2 (Nat.le_of_ble_eq_true rfl)
              have d69 : (vs 3) = .bool false := hV 3 (Nat.le_of_ble_eq_true rfl)
              have d70 : (vs 4) = .pointer (some ⟨gp, 0, none⟩) := hV 4 (Nat.le_of_ble_eq_true rfl)
              have d71 : (vs 5) = .int .u16 x3 := hV 5 (Nat.le_of_ble_eq_true rfl)
              have d72 : (vs 6) = .pointer (some ⟨gq, 0, none⟩) := hV 6 (Nat.le_of_ble_eq_true rfl)
              have d73 : (vs 7) = .int .u16 x3 := hV 7 (Nat.le_of_ble_eq_true rfl)
              have d74 : (vs 8) = .bool false := hV 8 (Nat.le_of_ble_eq_true rfl)
              have d75 : (vs 9) = .bool false := hV 9 (Nat.le_of_ble_eq_true rfl)
              have d76 : (vs 10) = .bool false := hV 10 (Nat.le_of_ble_eq_true rfl)
              have d77 : (vs 11) = .pointer (some ⟨gp, 1, none⟩) := hV 11 (Nat.le_of_ble_eq_true rfl)
              have d78 : (vs 12) = .int .u32 b3 := hV 12 (Nat.le_of_ble_eq_true rfl)
              have d79 : (vs 13) = .agg (came x3 b3.testBit) := hV 13 (Nat.le_of_ble_eq_true rfl)
              have d80 : (vs 14) = .int .u32 b3 := hV 14 (Nat.le_of_ble_eq_true rfl)
              have d81 : (vs 15) = .bool false := hV 15 (Nat.le_of_ble_eq_true rfl)
              have d82 : (vs 16) = .bool false := hV 16 (Nat.le_of_ble_eq_true rfl)
              have d83 : (vs 17) = .bool false := hV 17 (Nat.le_of_ble_eq_true rfl)
              have d84 : (vs 18) = .bool false := hV 18 (Nat.le_of_ble_eq_true rfl)
              have d85 : (vs 19) = .bool false := hV 19 (Nat.le_of_ble_eq_true rfl)
              have d86 : (vs 20) = undef := hV 20 (Nat.le_of_ble_eq_true rfl)
              have d87 : (vs 21) = undef := hV 21 (Nat.le_of_ble_eq_true rfl)
              have d88 : (vs 22) = undef := hV 22 (Nat.le_of_ble_eq_true rfl)
              have d89 : (vs 23) = undef := hV 23 (Nat.le_of_ble_eq_true rfl)
              have d90 : (vs 24) = undef := hV 24 (Nat.le_of_ble_eq_true rfl)
              have d91 : (vs 25) = undef := hV 25 (Nat.le_of_ble_eq_true rfl)
              have d92 : (vs 26) = undef := hV 26 (Nat.le_of_ble_eq_true rfl)
              have d93 : (vs 27) = .bool false := hV 27 (Nat.le_of_ble_eq_true rfl)
              have d94 : (vs 28) = .bool false := hV 28 (Nat.le_of_ble_eq_true rfl)
              clear hV
              simp only [putAll]
              rw [d66, d67, d68, d69, d70, d71, d72, d73, d74, d75, d76, d77, d78, d79, d80, d81, d82, d83, d84, d85, d86, d87, d88, d89, d90, d91, d92, d93, d94]
              clear d66 d67 d68 d69 d70 d71 d72 d73 d74 d75 d76 d77 d78 d79 d80 d81 d82 d83 d84 d85 d86 d87 d88 d89 d90 d91 d92 d93 d94
              clear vs
              simp only [Act.put, List.setIfInBounds_toArray, List.set_cons_zero, List.set_cons_succ]
              have A6 := Aside0.mk (Two.below A5.out hb6)
              have X6 : Aside0 (Fn v6 gx x b2.testBit) := ⟨blk_below X5.out hb6⟩
              have P6 := Aside0.mk (Two.below P5.out hb6)
              have Y6 : Aside0 (Fn v6 gq x3 b3.testBit) := ⟨blk_below Y5.out hb6⟩
              have B6 := Aside0.mk (below_step B5.out hb6)
              clear hb6 A5 X5 P5 Y5 B5
              have hbl : ∃ bl : List Value, v6.rangeAt gq 1 bl ∧ bl.length = 32 ∧ ∀ i (h : i < bl.length), bl[i]'h = .bool (b3.testBit i) := by
                refine ⟨(List.range 32).map fun i => Value.bool (b3.testBit i), fun i v hv => ?_, by simp, fun i h => by simp⟩
                have hi : i < 32 := by have := (List.getElem?_eq_some_iff.1 hv).1; simpa using this
                rw [Fn.at_ Y6.out hi]
                rw [List.getElem?_map, List.getElem?_range hi] at hv
                exact hv
              obtain ⟨bl, hb1, hb2, hb3⟩ := hbl
              have HBL := Aside0.mk hb1
              have HBL2 := Aside0.mk hb2
              have HBL3 := Aside0.mk hb3
              clear hb1 hb2 hb3
              go_wp2_with (first | (refine wpList_load_mid rfl 42 (.tmp 95) rfl gq 1 rfl _ _ HBL.out Tryd.underlying42 rfl (by rw [HBL2.out]; kernel_rfl) ?_))
              go_loopw [18, 97] (fun v18 v97 wr => ∃ i : Nat, i ≤ 32 ∧ v97 = .int .i64 i ∧ v18 = .int .i64 (pop i b3 : Nat) ∧ Aside0 (Below v6.heap.size v6 wr)) (fun _ v97 _ => 32 - (intOf v97).toNat)
              case atStart => exact ⟨0, by omega, rfl, rfl, ⟨Below.refl _ _⟩⟩
              case round =>
                obtain ⟨i, hi, rfl, rfl, M⟩ := hrel
                by_cases hlt2 : i < 32
                · have g1 := HBL3.out i (by rw [HBL2.out]; exact hlt2)
                  have g2 := HBL2.out
                  have gix := fun v (hv : bl.toArray[i]? = some (.bool v)) w => index_bool w bl.toArray i hlt2 v hv
                  have p1 := pop_succ i b3
                  have p2 := pop_le i b3
                  obtain ⟨v, hv⟩ : ∃ v, b3.testBit i = v := ⟨_, rfl⟩
                  rw [hv] at g1 p1
                  have HP1 := Aside0.mk p1
                  clear hv p1
                  have gi := gix v (by rw [List.getElem?_toArray, List.getElem?_eq_getElem (by rw [HBL2.out]; exact hlt2), g1])
                  clear gix g1
                  cases v
                  all_goals
                    go_wp2_with fail
                    go_roundw
                    case rel => exact ⟨i + 1, by omega, by go_num, by rw [HP1.out]; go_num, M⟩
                    case measure => simp [intOf]; omega
                · have hi32 : i = 32 := by omega
                  have hd2 : decide ((i : Int) < 32) = false := decide_eq_false (by omega)
                  have hp : pop i b3 = pop 32 b3 := by rw [hi32]
                  have hm : pop i b3 ≤ i := pop_le i b3
                  generalize pop i b3 = m at *
                  have HP := Aside0.mk hp
                  clear hi32 hp
                  have A7 := Aside0.mk (Two.below A6.out M.out)
                  have X7 : Aside0 (Fn wr gx x b2.testBit) := ⟨blk_below X6.out M.out⟩
                  have P7 := Aside0.mk (Two.below P6.out M.out)
                  have Y7 : Aside0 (Fn wr gq x3 b3.testBit) := ⟨blk_below Y6.out M.out⟩
                  have B7 := Aside0.mk (below_step B6.out M.out)
                  clear M A6 X6 P6 Y6 B6 HBL HBL2 HBL3
                  have p0 := P7.out.c0
                  have p1 := P7.out.c1
                  go_wp2_with fail
                  refine (ahead_any x3 b3 HF.out.1 _).mono ?_
                  rintro e v8 ⟨rfl, hb8⟩
                  rw [← HP.out]
                  have A8 := Aside0.mk (Two.below A7.out hb8)
                  have X8 : Aside0 (Fn v8 gx x b2.testBit) := ⟨blk_below X7.out hb8⟩
                  have P8 := Aside0.mk (Two.below P7.out hb8)
                  have Y8 : Aside0 (Fn v8 gq x3 b3.testBit) := ⟨blk_below Y7.out hb8⟩
                  have B8 := Aside0.mk (below_step B7.out hb8)
                  clear hb8 A7 X7 P7 Y7 B7 p0 p1
                  go_wp2_with fail
                  refine region_all (w := v8)
                    (fun i wc v => if i = 0 then v = .agg #[.int .u16 x3, .int .u32 b3] else if i = 1 then v = .agg (came x3 b3.testBit) else if i = 2 then Two wc ga (x3, b3) else Fn wc gx x3 b3.testBit)
                    (fun _ => none)
                    (fun wc => Two wc gp (x3, b3) ∧ Fn wc gq x3 b3.testBit ∧ Below w.heap.size w wc ∧ (∃ p, Two wc ga p) ∧ (∃ y f, Fn wc gx y f))
                    (fun wa wb => (Two wa ga (x3, b3) → Two wb ga (x3, b3)) ∧ (Fn wa gx x3 b3.testBit → Fn wb gx x3 b3.testBit))
                    [(0, some 108), (1, some 109), (2, none), (3, none)]
                    (by kernel_rfl) (by kernel_rfl) (by kernel_rfl) (fun _ => ⟨id, id⟩) ?stab ?guard ?c0 ?op ?fin
                  case stab =>
                    intro i wa wb v hi hs hv
                    rcases i with _ | _ | _ | i
                    · exact hv
                    · exact hv
                    · exact hs.1 hv
                    · simp only [show i + 1 + 1 + 1 ≠ 0 by omega, show i + 1 + 1 + 1 ≠ 1 by omega, show i + 1 + 1 + 1 ≠ 2 by omega, if_false] at hv ⊢
                      exact hs.2 hv
                  case guard =>
                    intro i o j b ho hg
                    rcases i with _ | _ | _ | _ | i
                    · obtain rfl := Option.some.inj ho; cases hg
                    · obtain rfl := Option.some.inj ho; cases hg
                    · obtain rfl := Option.some.inj ho; cases hg
                    · obtain rfl := Option.some.inj ho; cases hg
                    · simp at ho
                  case c0 => exact ⟨P8.out, Y8.out, below_drew1 B8.out, ⟨_, A8.out⟩, ⟨_, _, X8.out⟩⟩
                  case op =>
                    intro i o ho vs wc hC hV
                    obtain ⟨c1, c2, c3, ⟨p, c4⟩, ⟨y, f, c5⟩⟩ := hC
                    have hG := HG2.out
                    rcases i with _ | _ | _ | _ | i
                    · obtain rfl := Option.some.inj ho
                      rw [if_pos (by kernel_rfl)]
                      exact runs_load 35 (.tmp 14) rfl gp (by kernel_rfl) 35 _ (0, 0) _ c1 Tryd.underlying35 rfl two_info ⟨⟨c1, c2, c3, ⟨p, c4⟩, ⟨y, f, c5⟩⟩, ⟨id, id⟩, rfl⟩
                    · obtain rfl := Option.some.inj ho
                      rw [if_pos (by kernel_rfl)]
                      exact runs_load 44 (.tmp 16) rfl gq (by kernel_rfl) 44 _ (0, 0) _ c2 Tryd.underlying44 rfl (HI _ _).out ⟨⟨c1, c2, c3, ⟨p, c4⟩, ⟨y, f, c5⟩⟩, ⟨id, id⟩, rfl⟩
                    · obtain rfl := Option.some.inj ho
                      rw [if_pos (by kernel_rfl)]
                      have hv : vs 0 = .agg #[.int .u16 x3, .int .u32 b3] := hV 0 (by kernel_rfl)
                      generalize hρ : rho _ _ _ vs = ρ
                      have e1 : ρ (.tmp 9) = .pointer (some ⟨ga, 0, none⟩) := by rw [← hρ]; kernel_rfl
                      have e2 : ρ (.tmp 108) = vs 0 := by rw [← hρ]; kernel_rfl
                      refine runs_store 35 (.tmp 9) (.tmp 108) rfl ga #[.int .u16 x3, .int .u32 b3] e1 (e2.trans hv) 35 _ c4 two_info rfl (by simp [Value.oneCell']) ⟨⟨?_, ?_, ?_, ⟨(x3, b3), ?_⟩, ⟨y, f, ?_⟩⟩, ⟨fun _ => ?_, fun h => ?_⟩, ?_⟩
                      · exact (setRow_other _ _ _ _ (by omega)).trans c1
                      · exact (setRow_other _ _ _ _ (by omega)).trans c2
                      · exact below_setRow c3 hga _
                      · exact setRow_heap _ _ _ _ _ _ c4
                      · exact (setRow_other _ _ _ _ (by omega)).trans c5
                      · exact setRow_heap _ _ _ _ _ _ c4
                      · exact (setRow_other _ _ _ _ (by omega)).trans h
                      · exact setRow_heap _ _ _ _ _ _ c4
                    · obtain rfl := Option.some.inj ho
                      rw [if_pos (by kernel_rfl)]
                      have hv : vs 1 = .agg (came x3 b3.testBit) := hV 1 (by kernel_rfl)
                      generalize hρ : rho _ _ _ vs = ρ
                      have e1 : ρ (.tmp 10) = .pointer (some ⟨gx, 0, none⟩) := by rw [← hρ]; kernel_rfl
                      have e2 : ρ (.tmp 109) = vs 1 := by rw [← hρ]; kernel_rfl
                      refine runs_store 44 (.tmp 10) (.tmp 109) rfl gx (came x3 b3.testBit) e1 (e2.trans hv) 44 _ c5 (HI _ _).out (by rw [came_size, came_size]) (HO _ _).out ⟨⟨?_, ?_, ?_, ⟨p, ?_⟩, ⟨x3, b3.testBit, ?_⟩⟩, ⟨fun h => ?_, fun _ => ?_⟩, ?_⟩
                      · exact (setRow_other _ _ _ _ (by omega)).trans c1
                      · exact (setRow_other _ _ _ _ (by omega)).trans c2
                      · exact below_setRow c3 hgx2 _
                      · exact (setRow_other _ _ _ _ (by omega)).trans c4
                      · exact setRow_heap _ _ _ _ _ _ c5
                      · exact (setRow_other _ _ _ _ (by omega)).trans h
                      · exact setRow_heap _ _ _ _ _ _ c5
                      · exact setRow_heap _ _ _ _ _ _ c5
                    · simp at ho
                  case fin =>
                    intro vs v9 hC hV
                    have A9 : Aside0 (Two v9 ga (x3, b3)) := ⟨hV 2 (Nat.le_of_ble_eq_true rfl)⟩
                    have X9 : Aside0 (Fn v9 gx x3 b3.testBit) := ⟨hV 3 (Nat.le_of_ble_eq_true rfl)⟩
                    have B9 := Aside0.mk hC.2.2.1
                    clear hC hV A8 X8 P8 Y8 B8
                    simp only [putAll]
                    generalize vs 0 = o0
                    generalize vs 1 = o1
                    generalize vs 2 = o2
                    generalize vs 3 = o3
                    clear vs
                    simp only [Act.put, List.setIfInBounds_toArray, List.set_cons_zero, List.set_cons_succ]
                    go_wp2_with fail
                    go_roundw
                    case rel => exact ⟨j + 1, (x3, b3), by omega, by go_num, ⟨A9.out, X9.out, HF.out.2.1, HF.out.1, B9.out⟩⟩
                    case measure => simp [intOf]; omega
          case true =>
            obtain rfl : had = false := HF.out.2.2.1 rfl
            refine region_grown (W := v5)
              [fun (w : World) (v : Value) => v = .bool true,
   fun (w : World) (v : Value) => v = .bool true,
   fun (w : World) (v : Value) => v = .bool false,
   fun (w : World) (v : Value) => v = .bool false,
   fun (w : World) (v : Value) => v = .pointer (some ⟨gp, 0, none⟩),
   fun (w : World) (v : Value) => v = .int .u16 x3,
   fun (w : World) (v : Value) => v = .pointer (some ⟨gq, 0, none⟩),
   fun (w : World) (v : Value) => v = .int .u16 x3,
   fun (w : World) (v : Value) => v = .bool false,
   fun (w : World) (v : Value) => v = .bool false,
   fun (w : World) (v : Value) => v = .bool false,
   fun (w : World) (v : Value) => v = .pointer (some ⟨gp, 1, none⟩),
   fun (w : World) (v : Value) => v = .int .u32 b3,
   fun (w : World) (v : Value) => v = .agg (came x3 b3.testBit),
   fun (w : World) (v : Value) => v = .int .u32 b3,
   fun (w : World) (v : Value) => v = .bool false,
   fun (w : World) (v : Value) => v = .bool false,
   fun (w : World) (v : Value) => v = .bool false,
   fun (w : World) (v : Value) => v = .bool true,
   fun (w : World) (v : Value) => v = .bool true,
   fun (w : World) (v : Value) => v = .bool false,
   fun (w : World) (v : Value) => v = .bool false,
   fun (w : World) (v : Value) => v = .agg #[.int .u16 x3, .int .u32 b3],
   fun (w : World) (v : Value) => v = .int .u16 s,
   fun (w : World) (v : Value) => v = .bool true,
   fun (w : World) (v : Value) => v = .bool false,
   fun (w : World) (v : Value) => v = .bool false,
   fun (w : World) (v : Value) => v = .bool false,
   fun (w : World) (v : Value) => v = .bool false]
              (fun j => if j = 3 then some false else if j = 10 then some false else if j = 17 then some false else if j = 19 then some true else if j = 21 then some false else none)
              [(0, some 66), (1, some 67), (2, some 68), (3, some 69), (4, some 70), (5, some 71), (6, some 72), (7, some 73), (8, some 74), (9, some 75), (10, some 76), (11, some 77), (12, some 78), (13, some 79), (14, some 80), (15, some 81), (16, some 82), (17, some 83), (18, some 84), (19, some 85), (20, some 86), (21, some 87), (22, some 88), (23, some 89), (24, some 90), (25, some 91), (26, some 92), (27, some 93), (28, some 94)]
              [3, 10, 17, 19, 21]
              (by kernel_rfl) (by kernel_rfl) (by kernel_rfl) (by kernel_rfl) ?r16_2g ?r16_2s ⟨?r16_2o0, ?r16_2o1, ?r16_2o2, ?r16_2o3, ?r16_2o4, ?r16_2o5, ?r16_2o6, ?r16_2o7, ?r16_2o8, ?r16_2o9, ?r16_2o10, ?r16_2o11, ?r16_2o12, ?r16_2o13, ?r16_2o14, ?r16_2o15, ?r16_2o16, ?r16_2o17, ?r16_2o18, ?r16_2o19, ?r16_2o20, ?r16_2o21, ?r16_2o22, ?r16_2o23, ?r16_2o24, ?r16_2o25, ?r16_2o26, ?r16_2o27, ?r16_2o28, trivial⟩ ?r16_2e
            case r16_2g =>
              intro j hj w v hv
              simp only [List.mem_cons, List.not_mem_nil, or_false] at hj
              rcases hj with rfl | rfl | rfl | rfl | rfl
              · have hv' : v = .bool false := hv; rw [hv']; rfl
              · have hv' : v = .bool false := hv; rw [hv']; rfl
              · have hv' : v = .bool false := hv; rw [hv']; rfl
              · have hv' : v = .bool true := hv; rw [hv']; rfl
              · have hv' : v = .bool false := hv; rw [hv']; rfl
            case r16_2s =>
              refine ⟨(fun w w' v hb h => h), (fun w w' v hb h => h), (fun w w' v hb h => h), (fun w w' v hb h => h), (fun w w' v hb h => h), (fun w w' v hb h => h), (fun w w' v hb h => h), (fun w w' v hb h => h), (fun w w' v hb h => h), (fun w w' v hb h => h), (fun w w' v hb h => h), (fun w w' v hb h => h), (fun w w' v hb h => h), (fun w w' v hb h => h), (fun w w' v hb h => h), (fun w w' v hb h => h), (fun w w' v hb h => h), (fun w w' v hb h => h), (fun w w' v hb h => h), (fun w w' v hb h => h), (fun w w' v hb h => h), (fun w w' v hb h => h), (fun w w' v hb h => h), (fun w w' v hb h => h), (fun w w' v hb h => h), (fun w w' v hb h => h), (fun w w' v hb h => h), (fun w w' v hb h => h), (fun w w' v hb h => h), trivial⟩
            case r16_2o0 =>
              intro vs w hb hV
              rw [if_pos (by kernel_rfl)]
              generalize hρ : rho _ _ _ vs = ρ
              have e15 : ρ (.tmp 15) = .bool true := by rw [← hρ]; kernel_rfl
              clear hρ hV
              refine runs_val (v := .bool true) (w' := w) ?_ ⟨Below.refl _ _, rfl⟩
              go_simp <;> (first | exact IntWalk.u64_in _ (by omega) | exact IntWalk.u32_in _ (by omega) | exact IntWalk.u16_in _ (by omega) | exact IntWalk.u8_in _ (by omega) | exact IntWalk.i64_in _ (by omega) | skip)
            case r16_2o1 =>
              intro vs w hb hV
              rw [if_pos (by kernel_rfl)]
              generalize hρ : rho _ _ _ vs = ρ
              have e17 : ρ (.tmp 17) = .bool true := by rw [← hρ]; kernel_rfl
              clear hρ hV
              refine runs_val (v := .bool true) (w' := w) ?_ ⟨Below.refl _ _, rfl⟩
              go_simp <;> (first | exact IntWalk.u64_in _ (by omega) | exact IntWalk.u32_in _ (by omega) | exact IntWalk.u16_in _ (by omega) | exact IntWalk.u8_in _ (by omega) | exact IntWalk.i64_in _ (by omega) | skip)
            case r16_2o2 =>
              intro vs w hb hV
              rw [if_pos (by kernel_rfl)]
              generalize hρ : rho _ _ _ vs = ρ
              have d66 : (vs 0) = .bool true := hV 0 (by kernel_rfl)
              have e66 : ρ (.tmp 66) = vs 0 := by rw [← hρ]; kernel_rfl
              rw [d66] at e66; clear d66
              have d67 : (vs 1) = .bool true := hV 1 (by kernel_rfl)
              have e67 : ρ (.tmp 67) = vs 1 := by rw [← hρ]; kernel_rfl
              rw [d67] at e67; clear d67
              clear hρ hV
              refine runs_val (v := .bool false) (w' := w) ?_ ⟨Below.refl _ _, rfl⟩
              go_simp <;> (first | exact IntWalk.u64_in _ (by omega) | exact IntWalk.u32_in _ (by omega) | exact IntWalk.u16_in _ (by omega) | exact IntWalk.u8_in _ (by omega) | exact IntWalk.i64_in _ (by omega) | skip)
            case r16_2o3 =>
              intro vs w hb hV
              rw [if_pos (by kernel_rfl)]
              generalize hρ : rho _ _ _ vs = ρ
              have d68 : (vs 2) = .bool false := hV 2 (by kernel_rfl)
              have e68 : ρ (.tmp 68) = vs 2 := by rw [← hρ]; kernel_rfl
              clear hρ hV
              refine runs_val (v := vs 2) (w' := w) ?_ ⟨Below.refl _ _, d68⟩
              go_simp
            case r16_2o4 =>
              intro vs w hb hV
              rw [if_pos (by kernel_rfl)]
              generalize hρ : rho _ _ _ vs = ρ
              have e14 : ρ (.tmp 14) = .pointer (some ⟨gp, 0, none⟩) := by rw [← hρ]; kernel_rfl
              clear hρ hV
              refine runs_val (v := .pointer (some ⟨gp, 0, none⟩)) (w' := w) ?_ ⟨Below.refl _ _, rfl⟩
              go_simp <;> (first | exact IntWalk.u64_in _ (by omega) | exact IntWalk.u32_in _ (by omega) | exact IntWalk.u16_in _ (by omega) | exact IntWalk.u8_in _ (by omega) | exact IntWalk.i64_in _ (by omega) | skip)
            case r16_2o5 =>
              intro vs w hb hV
              rw [if_pos (by kernel_rfl)]
              generalize hρ : rho _ _ _ vs = ρ
              have d70 : (vs 4) = .pointer (some ⟨gp, 0, none⟩) := hV 4 (by kernel_rfl)
              have e70 : ρ (.tmp 70) = vs 4 := by rw [← hρ]; kernel_rfl
              rw [d70] at e70; clear d70
              clear hρ hV
              have c0 := (Two.below P5.out hb).c0
              refine runs_val (v := .int .u16 x3) (w' := w) ?_ ⟨Below.refl _ _, rfl⟩
              go_simp
            case r16_2o6 =>
              intro vs w hb hV
              rw [if_pos (by kernel_rfl)]
              generalize hρ : rho _ _ _ vs = ρ
              have e16 : ρ (.tmp 16) = .pointer (some ⟨gq, 0, none⟩) := by rw [← hρ]; kernel_rfl
              clear hρ hV
              refine runs_val (v := .pointer (some ⟨gq, 0, none⟩)) (w' := w) ?_ ⟨Below.refl _ _, rfl⟩
              go_simp <;> (first | exact IntWalk.u64_in _ (by omega) | exact IntWalk.u32_in _ (by omega) | exact IntWalk.u16_in _ (by omega) | exact IntWalk.u8_in _ (by omega) | exact IntWalk.i64_in _ (by omega) | skip)
            case r16_2o7 =>
              intro vs w hb hV
              rw [if_pos (by kernel_rfl)]
              generalize hρ : rho _ _ _ vs = ρ
              have d72 : (vs 6) = .pointer (some ⟨gq, 0, none⟩) := hV 6 (by kernel_rfl)
              have e72 : ρ (.tmp 72) = vs 6 := by rw [← hρ]; kernel_rfl
              rw [d72] at e72; clear d72
              clear hρ hV
              have c0 := Fn.c0 (blk_below Y5.out hb)
              refine runs_val (v := .int .u16 x3) (w' := w) ?_ ⟨Below.refl _ _, rfl⟩
              go_simp
            case r16_2o8 =>
              intro vs w hb hV
              rw [if_pos (by kernel_rfl)]
              generalize hρ : rho _ _ _ vs = ρ
              have d71 : (vs 5) = .int .u16 x3 := hV 5 (by kernel_rfl)
              have e71 : ρ (.tmp 71) = vs 5 := by rw [← hρ]; kernel_rfl
              rw [d71] at e71; clear d71
              have d73 : (vs 7) = .int .u16 x3 := hV 7 (by kernel_rfl)
              have e73 : ρ (.tmp 73) = vs 7 := by rw [← hρ]; kernel_rfl
              rw [d73] at e73; clear d73
              clear hρ hV
              refine runs_val (v := .bool false) (w' := w) ?_ ⟨Below.refl _ _, rfl⟩
              go_simp <;> (first | exact IntWalk.u64_in _ (by omega) | exact IntWalk.u32_in _ (by omega) | exact IntWalk.u16_in _ (by omega) | exact IntWalk.u8_in _ (by omega) | exact IntWalk.i64_in _ (by omega) | skip)
            case r16_2o9 =>
              intro vs w hb hV
              rw [if_pos (by kernel_rfl)]
              generalize hρ : rho _ _ _ vs = ρ
              have d69 : (vs 3) = .bool false := hV 3 (by kernel_rfl)
              have e69 : ρ (.tmp 69) = vs 3 := by rw [← hρ]; kernel_rfl
              rw [d69] at e69; clear d69
              have d74 : (vs 8) = .bool false := hV 8 (by kernel_rfl)
              have e74 : ρ (.tmp 74) = vs 8 := by rw [← hρ]; kernel_rfl
              rw [d74] at e74; clear d74
              have econ : ∀ v : Value, ρ (.const v) = v := fun v => by rw [← hρ]; rfl
              clear hρ hV
              refine runs_val (v := .bool false) (w' := w) ?_ ⟨Below.refl _ _, rfl⟩
              go_simp <;> (first | exact IntWalk.u64_in _ (by omega) | exact IntWalk.u32_in _ (by omega) | exact IntWalk.u16_in _ (by omega) | exact IntWalk.u8_in _ (by omega) | exact IntWalk.i64_in _ (by omega) | skip)
            case r16_2o10 =>
              intro vs w hb hV
              rw [if_pos (by kernel_rfl)]
              generalize hρ : rho _ _ _ vs = ρ
              have d75 : (vs 9) = .bool false := hV 9 (by kernel_rfl)
              have e75 : ρ (.tmp 75) = vs 9 := by rw [← hρ]; kernel_rfl
              clear hρ hV
              refine runs_val (v := vs 9) (w' := w) ?_ ⟨Below.refl _ _, d75⟩
              go_simp
            case r16_2o11 =>
              intro vs w hb hV
              rw [if_pos (by kernel_rfl)]
              generalize hρ : rho _ _ _ vs = ρ
              have e14 : ρ (.tmp 14) = .pointer (some ⟨gp, 0, none⟩) := by rw [← hρ]; kernel_rfl
              clear hρ hV
              refine runs_val (v := .pointer (some ⟨gp, 1, none⟩)) (w' := w) ?_ ⟨Below.refl _ _, rfl⟩
              go_simp <;> (first | exact IntWalk.u64_in _ (by omega) | exact IntWalk.u32_in _ (by omega) | exact IntWalk.u16_in _ (by omega) | exact IntWalk.u8_in _ (by omega) | exact IntWalk.i64_in _ (by omega) | skip)
            case r16_2o12 =>
              intro vs w hb hV
              rw [if_pos (by kernel_rfl)]
              generalize hρ : rho _ _ _ vs = ρ
              have d77 : (vs 11) = .pointer (some ⟨gp, 1, none⟩) := hV 11 (by kernel_rfl)
              have e77 : ρ (.tmp 77) = vs 11 := by rw [← hρ]; kernel_rfl
              rw [d77] at e77; clear d77
              clear hρ hV
              have c0 := (Two.below P5.out hb).c1
              refine runs_val (v := .int .u32 b3) (w' := w) ?_ ⟨Below.refl _ _, rfl⟩
              go_simp
            case r16_2o13 =>
              intro vs w hb hV
              rw [if_pos (by kernel_rfl)]
              generalize hρ : rho _ _ _ vs = ρ
              have e16 : ρ (.tmp 16) = .pointer (some ⟨gq, 0, none⟩) := by rw [← hρ]; kernel_rfl
              clear hρ hV
              exact runs_load 44 (.tmp 16) rfl gq e16 44 (came x3 b3.testBit) (0, 0) _ (blk_below Y5.out hb) Tryd.underlying44 rfl (HI _ _).out ⟨Below.refl _ _, rfl⟩
            case r16_2o14 =>
              intro vs w hb hV
              rw [if_pos (by kernel_rfl)]
              generalize hρ : rho _ _ _ vs = ρ
              have d79 : (vs 13) = .agg (came x3 b3.testBit) := hV 13 (by kernel_rfl)
              have e79 : ρ (.tmp 79) = vs 13 := by rw [← hρ]; kernel_rfl
              rw [d79] at e79; clear d79
              have ef18 : ρ (.func 18) = .func (.func 18) #[] #[] := by rw [← hρ]; rfl
              clear hρ hV
              refine runs_call (f := 18) (args := #[.agg (came x3 b3.testBit)]) (w' := w) ?_ ?_
              · go_simp
              · refine (bits_any x3 b3 HF.out.1 _).mono ?_
                rintro e w5 ⟨rfl, hb5⟩
                exact ⟨_, rfl, hb5, rfl⟩
            case r16_2o15 =>
              intro vs w hb hV
              rw [if_pos (by kernel_rfl)]
              generalize hρ : rho _ _ _ vs = ρ
              have d78 : (vs 12) = .int .u32 b3 := hV 12 (by kernel_rfl)
              have e78 : ρ (.tmp 78) = vs 12 := by rw [← hρ]; kernel_rfl
              rw [d78] at e78; clear d78
              have d80 : (vs 14) = .int .u32 b3 := hV 14 (by kernel_rfl)
              have e80 : ρ (.tmp 80) = vs 14 := by rw [← hρ]; kernel_rfl
              rw [d80] at e80; clear d80
              clear hρ hV
              refine runs_val (v := .bool false) (w' := w) ?_ ⟨Below.refl _ _, rfl⟩
              go_simp <;> (first | exact IntWalk.u64_in _ (by omega) | exact IntWalk.u32_in _ (by omega) | exact IntWalk.u16_in _ (by omega) | exact IntWalk.u8_in _ (by omega) | exact IntWalk.i64_in _ (by omega) | skip)
            case r16_2o16 =>
              intro vs w hb hV
              rw [if_pos (by kernel_rfl)]
              generalize hρ : rho _ _ _ vs = ρ
              have d76 : (vs 10) = .bool false := hV 10 (by kernel_rfl)
              have e76 : ρ (.tmp 76) = vs 10 := by rw [← hρ]; kernel_rfl
              rw [d76] at e76; clear d76
              have d81 : (vs 15) = .bool false := hV 15 (by kernel_rfl)
              have e81 : ρ (.tmp 81) = vs 15 := by rw [← hρ]; kernel_rfl
              rw [d81] at e81; clear d81
              have econ : ∀ v : Value, ρ (.const v) = v := fun v => by rw [← hρ]; rfl
              clear hρ hV
              refine runs_val (v := .bool false) (w' := w) ?_ ⟨Below.refl _ _, rfl⟩
              go_simp <;> (first | exact IntWalk.u64_in _ (by omega) | exact IntWalk.u32_in _ (by omega) | exact IntWalk.u16_in _ (by omega) | exact IntWalk.u8_in _ (by omega) | exact IntWalk.i64_in _ (by omega) | skip)
            case r16_2o17 =>
              intro vs w hb hV
              rw [if_pos (by kernel_rfl)]
              generalize hρ : rho _ _ _ vs = ρ
              have d82 : (vs 16) = .bool false := hV 16 (by kernel_rfl)
              have e82 : ρ (.tmp 82) = vs 16 := by rw [← hρ]; kernel_rfl
              clear hρ hV
              refine runs_val (v := vs 16) (w' := w) ?_ ⟨Below.refl _ _, d82⟩
              go_simp
            case r16_2o18 =>
              intro vs w hb hV
              rw [if_pos (by kernel_rfl)]
              generalize hρ : rho _ _ _ vs = ρ
              have e15 : ρ (.tmp 15) = .bool true := by rw [← hρ]; kernel_rfl
              clear hρ hV
              refine runs_val (v := .bool true) (w' := w) ?_ ⟨Below.refl _ _, rfl⟩
              go_simp <;> (first | exact IntWalk.u64_in _ (by omega) | exact IntWalk.u32_in _ (by omega) | exact IntWalk.u16_in _ (by omega) | exact IntWalk.u8_in _ (by omega) | exact IntWalk.i64_in _ (by omega) | skip)
            case r16_2o19 =>
              intro vs w hb hV
              rw [if_pos (by kernel_rfl)]
              generalize hρ : rho _ _ _ vs = ρ
              have d84 : (vs 18) = .bool true := hV 18 (by kernel_rfl)
              have e84 : ρ (.tmp 84) = vs 18 := by rw [← hρ]; kernel_rfl
              clear hρ hV
              refine runs_val (v := vs 18) (w' := w) ?_ ⟨Below.refl _ _, d84⟩
              go_simp
            case r16_2o20 =>
              intro vs w hb hV
              rw [if_pos (by kernel_rfl)]
              generalize hρ : rho _ _ _ vs = ρ
              have e13 : ρ (.tmp 13) = .bool false := by rw [← hρ]; kernel_rfl
              clear hρ hV
              refine runs_val (v := .bool false) (w' := w) ?_ ⟨Below.refl _ _, rfl⟩
              go_simp <;> (first | exact IntWalk.u64_in _ (by omega) | exact IntWalk.u32_in _ (by omega) | exact IntWalk.u16_in _ (by omega) | exact IntWalk.u8_in _ (by omega) | exact IntWalk.i64_in _ (by omega) | skip)
            case r16_2o21 =>
              intro vs w hb hV
              rw [if_pos (by kernel_rfl)]
              generalize hρ : rho _ _ _ vs = ρ
              have d86 : (vs 20) = .bool false := hV 20 (by kernel_rfl)
              have e86 : ρ (.tmp 86) = vs 20 := by rw [← hρ]; kernel_rfl
              clear hρ hV
              refine runs_val (v := vs 20) (w' := w) ?_ ⟨Below.refl _ _, d86⟩
              go_simp
            case r16_2o22 =>
              intro vs w hb hV
              rw [if_pos (by kernel_rfl)]
              generalize hρ : rho _ _ _ vs = ρ
              have e14 : ρ (.tmp 14) = .pointer (some ⟨gp, 0, none⟩) := by rw [← hρ]; kernel_rfl
              clear hρ hV
              have c0 := (Two.below P5.out hb).c0
              have c1 := (Two.below P5.out hb).c1
              refine runs_val (v := .agg #[.int .u16 x3, .int .u32 b3]) (w' := w) ?_ ⟨Below.refl _ _, rfl⟩
              go_simp
            case r16_2o23 =>
              intro vs w hb hV
              rw [if_pos (by kernel_rfl)]
              generalize hρ : rho _ _ _ vs = ρ
              have e12 : ρ (.tmp 12) = .int .u16 s := by rw [← hρ]; kernel_rfl
              clear hρ hV
              refine runs_val (v := .int .u16 s) (w' := w) ?_ ⟨Below.refl _ _, rfl⟩
              go_simp <;> (first | exact IntWalk.u64_in _ (by omega) | exact IntWalk.u32_in _ (by omega) | exact IntWalk.u16_in _ (by omega) | exact IntWalk.u8_in _ (by omega) | exact IntWalk.i64_in _ (by omega) | skip)
            case r16_2o24 =>
              intro vs w hb hV
              rw [if_pos (by kernel_rfl)]
              generalize hρ : rho _ _ _ vs = ρ
              have d88 : (vs 22) = .agg #[.int .u16 x3, .int .u32 b3] := hV 22 (by kernel_rfl)
              have e88 : ρ (.tmp 88) = vs 22 := by rw [← hρ]; kernel_rfl
              rw [d88] at e88; clear d88
              have d89 : (vs 23) = .int .u16 s := hV 23 (by kernel_rfl)
              have e89 : ρ (.tmp 89) = vs 23 := by rw [← hρ]; kernel_rfl
              rw [d89] at e89; clear d89
              have ef14 : ρ (.func 14) = .func (.func 14) #[] #[] := by rw [← hρ]; rfl
              clear hρ hV
              refine runs_call (f := 14) (args := #[.agg #[.int .u16 x3, .int .u32 b3], .int .u16 s]) (w' := w) ?_ ?_
              · go_simp
              · refine (has_any x3 s b3 HF.out.1 _).mono ?_
                rintro e w5 ⟨rfl, hb5⟩
                exact ⟨_, by rw [HF.out.2.2.2 rfl], hb5, rfl⟩
            case r16_2o25 =>
              intro vs w hb hV
              rw [if_pos (by kernel_rfl)]
              generalize hρ : rho _ _ _ vs = ρ
              have d90 : (vs 24) = .bool true := hV 24 (by kernel_rfl)
              have e90 : ρ (.tmp 90) = vs 24 := by rw [← hρ]; kernel_rfl
              rw [d90] at e90; clear d90
              clear hρ hV
              refine runs_val (v := .bool false) (w' := w) ?_ ⟨Below.refl _ _, rfl⟩
              go_simp <;> (first | exact IntWalk.u64_in _ (by omega) | exact IntWalk.u32_in _ (by omega) | exact IntWalk.u16_in _ (by omega) | exact IntWalk.u8_in _ (by omega) | exact IntWalk.i64_in _ (by omega) | skip)
            case r16_2o26 =>
              intro vs w hb hV
              rw [if_pos (by kernel_rfl)]
              generalize hρ : rho _ _ _ vs = ρ
              have d87 : (vs 21) = .bool false := hV 21 (by kernel_rfl)
              have e87 : ρ (.tmp 87) = vs 21 := by rw [← hρ]; kernel_rfl
              rw [d87] at e87; clear d87
              have d91 : (vs 25) = .bool false := hV 25 (by kernel_rfl)
              have e91 : ρ (.tmp 91) = vs 25 := by rw [← hρ]; kernel_rfl
              rw [d91] at e91; clear d91
              have econ : ∀ v : Value, ρ (.const v) = v := fun v => by rw [← hρ]; rfl
              clear hρ hV
              refine runs_val (v := .bool false) (w' := w) ?_ ⟨Below.refl _ _, rfl⟩
              go_simp <;> (first | exact IntWalk.u64_in _ (by omega) | exact IntWalk.u32_in _ (by omega) | exact IntWalk.u16_in _ (by omega) | exact IntWalk.u8_in _ (by omega) | exact IntWalk.i64_in _ (by omega) | skip)
            case r16_2o27 =>
              intro vs w hb hV
              rw [if_pos (by kernel_rfl)]
              generalize hρ : rho _ _ _ vs = ρ
              have d85 : (vs 19) = .bool true := hV 19 (by kernel_rfl)
              have e85 : ρ (.tmp 85) = vs 19 := by rw [← hρ]; kernel_rfl
              rw [d85] at e85; clear d85
              have d92 : (vs 26) = .bool false := hV 26 (by kernel_rfl)
              have e92 : ρ (.tmp 92) = vs 26 := by rw [← hρ]; kernel_rfl
              rw [d92] at e92; clear d92
              have econ : ∀ v : Value, ρ (.const v) = v := fun v => by rw [← hρ]; rfl
              clear hρ hV
              refine runs_val (v := .bool false) (w' := w) ?_ ⟨Below.refl _ _, rfl⟩
              go_simp <;> (first | exact IntWalk.u64_in _ (by omega) | exact IntWalk.u32_in _ (by omega) | exact IntWalk.u16_in _ (by omega) | exact IntWalk.u8_in _ (by omega) | exact IntWalk.i64_in _ (by omega) | skip)
            case r16_2o28 =>
              intro vs w hb hV
              rw [if_pos (by kernel_rfl)]
              generalize hρ : rho _ _ _ vs = ρ
              have d83 : (vs 17) = .bool false := hV 17 (by kernel_rfl)
              have e83 : ρ (.tmp 83) = vs 17 := by rw [← hρ]; kernel_rfl
              rw [d83] at e83; clear d83
              have d93 : (vs 27) = .bool false := hV 27 (by kernel_rfl)
              have e93 : ρ (.tmp 93) = vs 27 := by rw [← hρ]; kernel_rfl
              rw [d93] at e93; clear d93
              have econ : ∀ v : Value, ρ (.const v) = v := fun v => by rw [← hρ]; rfl
              clear hρ hV
              refine runs_val (v := .bool false) (w' := w) ?_ ⟨Below.refl _ _, rfl⟩
              go_simp <;> (first | exact IntWalk.u64_in _ (by omega) | exact IntWalk.u32_in _ (by omega) | exact IntWalk.u16_in _ (by omega) | exact IntWalk.u8_in _ (by omega) | exact IntWalk.i64_in _ (by omega) | skip)
            case r16_2e =>
              intro vs v6 hb6 hV
              have d66 : (vs 0) = .bool true := hV 0 (Nat.le_of_ble_eq_true rfl)
              have d67 : (vs 1) = .bool true := hV 1 (Nat.le_of_ble_eq_true rfl)
              have d68 : (vs 2) = .bool false := hV 2 (Nat.le_of_ble_eq_true rfl)
              have d69 : (vs 3) = .bool false := hV 3 (Nat.le_of_ble_eq_true rfl)
              have d70 : (vs 4) = .pointer (some ⟨gp, 0, none⟩) := hV 4 (Nat.le_of_ble_eq_true rfl)
              have d71 : (vs 5) = .int .u16 x3 := hV 5 (Nat.le_of_ble_eq_true rfl)
              have d72 : (vs 6) = .pointer (some ⟨gq, 0, none⟩) := hV 6 (Nat.le_of_ble_eq_true rfl)
              have d73 : (vs 7) = .int .u16 x3 := hV 7 (Nat.le_of_ble_eq_true rfl)
              have d74 : (vs 8) = .bool false := hV 8 (Nat.le_of_ble_eq_true rfl)
              have d75 : (vs 9) = .bool false := hV 9 (Nat.le_of_ble_eq_true rfl)
              have d76 : (vs 10) = .bool false := hV 10 (Nat.le_of_ble_eq_true rfl)
              have d77 : (vs 11) = .pointer (some ⟨gp, 1, none⟩) := hV 11 (Nat.le_of_ble_eq_true rfl)
              have d78 : (vs 12) = .int .u32 b3 := hV 12 (Nat.le_of_ble_eq_true rfl)
              have d79 : (vs 13) = .agg (came x3 b3.testBit) := hV 13 (Nat.le_of_ble_eq_true rfl)
              have d80 : (vs 14) = .int .u32 b3 := hV 14 (Nat.le_of_ble_eq_true rfl)
              have d81 : (vs 15) = .bool false := hV 15 (Nat.le_of_ble_eq_true rfl)
              have d82 : (vs 16) = .bool false := hV 16 (Nat.le_of_ble_eq_true rfl)
              have d83 : (vs 17) = .bool false := hV 17 (Nat.le_of_ble_eq_true rfl)
              have d84 : (vs 18) = .bool true := hV 18 (Nat.le_of_ble_eq_true rfl)
              have d85 : (vs 19) = .bool true := hV 19 (Nat.le_of_ble_eq_true rfl)
              have d86 : (vs 20) = .bool false := hV 20 (Nat.le_of_ble_eq_true rfl)
              have d87 : (vs 21) = .bool false := hV 21 (Nat.le_of_ble_eq_true rfl)
              have d88 : (vs 22) = .agg #[.int .u16 x3, .int .u32 b3] := hV 22 (Nat.le_of_ble_eq_true rfl)
              have d89 : (vs 23) = .int .u16 s := hV 23 (Nat.le_of_ble_eq_true rfl)
              have d90 : (vs 24) = .bool true := hV 24 (Nat.le_of_ble_eq_true rfl)
              have d91 : (vs 25) = .bool false := hV 25 (Nat.le_of_ble_eq_true rfl)
              have d92 : (vs 26) = .bool false := hV 26 (Nat.le_of_ble_eq_true rfl)
              have d93 : (vs 27) = .bool false := hV 27 (Nat.le_of_ble_eq_true rfl)
              have d94 : (vs 28) = .bool false := hV 28 (Nat.le_of_ble_eq_true rfl)
              clear hV
              simp only [putAll]
              rw [d66, d67, d68, d69, d70, d71, d72, d73, d74, d75, d76, d77, d78, d79, d80, d81, d82, d83, d84, d85, d86, d87, d88, d89, d90, d91, d92, d93, d94]
              clear d66 d67 d68 d69 d70 d71 d72 d73 d74 d75 d76 d77 d78 d79 d80 d81 d82 d83 d84 d85 d86 d87 d88 d89 d90 d91 d92 d93 d94
              clear vs
              simp only [Act.put, List.setIfInBounds_toArray, List.set_cons_zero, List.set_cons_succ]
              have A6 := Aside0.mk (Two.below A5.out hb6)
              have X6 : Aside0 (Fn v6 gx x b2.testBit) := ⟨blk_below X5.out hb6⟩
              have P6 := Aside0.mk (Two.below P5.out hb6)
              have Y6 : Aside0 (Fn v6 gq x3 b3.testBit) := ⟨blk_below Y5.out hb6⟩
              have B6 := Aside0.mk (below_step B5.out hb6)
              clear hb6 A5 X5 P5 Y5 B5
              have hbl : ∃ bl : List Value, v6.rangeAt gq 1 bl ∧ bl.length = 32 ∧ ∀ i (h : i < bl.length), bl[i]'h = .bool (b3.testBit i) := by
                refine ⟨(List.range 32).map fun i => Value.bool (b3.testBit i), fun i v hv => ?_, by simp, fun i h => by simp⟩
                have hi : i < 32 := by have := (List.getElem?_eq_some_iff.1 hv).1; simpa using this
                rw [Fn.at_ Y6.out hi]
                rw [List.getElem?_map, List.getElem?_range hi] at hv
                exact hv
              obtain ⟨bl, hb1, hb2, hb3⟩ := hbl
              have HBL := Aside0.mk hb1
              have HBL2 := Aside0.mk hb2
              have HBL3 := Aside0.mk hb3
              clear hb1 hb2 hb3
              go_wp2_with (first | (refine wpList_load_mid rfl 42 (.tmp 95) rfl gq 1 rfl _ _ HBL.out Tryd.underlying42 rfl (by rw [HBL2.out]; kernel_rfl) ?_))
              go_loopw [18, 97] (fun v18 v97 wr => ∃ i : Nat, i ≤ 32 ∧ v97 = .int .i64 i ∧ v18 = .int .i64 (pop i b3 : Nat) ∧ Aside0 (Below v6.heap.size v6 wr)) (fun _ v97 _ => 32 - (intOf v97).toNat)
              case atStart => exact ⟨0, by omega, rfl, rfl, ⟨Below.refl _ _⟩⟩
              case round =>
                obtain ⟨i, hi, rfl, rfl, M⟩ := hrel
                by_cases hlt2 : i < 32
                · have g1 := HBL3.out i (by rw [HBL2.out]; exact hlt2)
                  have g2 := HBL2.out
                  have gix := fun v (hv : bl.toArray[i]? = some (.bool v)) w => index_bool w bl.toArray i hlt2 v hv
                  have p1 := pop_succ i b3
                  have p2 := pop_le i b3
                  obtain ⟨v, hv⟩ : ∃ v, b3.testBit i = v := ⟨_, rfl⟩
                  rw [hv] at g1 p1
                  have HP1 := Aside0.mk p1
                  clear hv p1
                  have gi := gix v (by rw [List.getElem?_toArray, List.getElem?_eq_getElem (by rw [HBL2.out]; exact hlt2), g1])
                  clear gix g1
                  cases v
                  all_goals
                    go_wp2_with fail
                    go_roundw
                    case rel => exact ⟨i + 1, by omega, by go_num, by rw [HP1.out]; go_num, M⟩
                    case measure => simp [intOf]; omega
                · have hi32 : i = 32 := by omega
                  have hd2 : decide ((i : Int) < 32) = false := decide_eq_false (by omega)
                  have hp : pop i b3 = pop 32 b3 := by rw [hi32]
                  have hm : pop i b3 ≤ i := pop_le i b3
                  generalize pop i b3 = m at *
                  have HP := Aside0.mk hp
                  clear hi32 hp
                  have A7 := Aside0.mk (Two.below A6.out M.out)
                  have X7 : Aside0 (Fn wr gx x b2.testBit) := ⟨blk_below X6.out M.out⟩
                  have P7 := Aside0.mk (Two.below P6.out M.out)
                  have Y7 : Aside0 (Fn wr gq x3 b3.testBit) := ⟨blk_below Y6.out M.out⟩
                  have B7 := Aside0.mk (below_step B6.out M.out)
                  clear M A6 X6 P6 Y6 B6 HBL HBL2 HBL3
                  have p0 := P7.out.c0
                  have p1 := P7.out.c1
                  go_wp2_with fail
                  refine (ahead_any x3 b3 HF.out.1 _).mono ?_
                  rintro e v8 ⟨rfl, hb8⟩
                  rw [← HP.out]
                  have A8 := Aside0.mk (Two.below A7.out hb8)
                  have X8 : Aside0 (Fn v8 gx x b2.testBit) := ⟨blk_below X7.out hb8⟩
                  have P8 := Aside0.mk (Two.below P7.out hb8)
                  have Y8 : Aside0 (Fn v8 gq x3 b3.testBit) := ⟨blk_below Y7.out hb8⟩
                  have B8 := Aside0.mk (below_step B7.out hb8)
                  clear hb8 A7 X7 P7 Y7 B7 p0 p1
                  go_wp2_with fail
                  refine region_all (w := v8)
                    (fun i wc v => if i = 0 then v = .agg #[.int .u16 x3, .int .u32 b3] else if i = 1 then v = .agg (came x3 b3.testBit) else if i = 2 then Two wc ga (x3, b3) else Fn wc gx x3 b3.testBit)
                    (fun _ => none)
                    (fun wc => Two wc gp (x3, b3) ∧ Fn wc gq x3 b3.testBit ∧ Below w.heap.size w wc ∧ (∃ p, Two wc ga p) ∧ (∃ y f, Fn wc gx y f))
                    (fun wa wb => (Two wa ga (x3, b3) → Two wb ga (x3, b3)) ∧ (Fn wa gx x3 b3.testBit → Fn wb gx x3 b3.testBit))
                    [(0, some 108), (1, some 109), (2, none), (3, none)]
                    (by kernel_rfl) (by kernel_rfl) (by kernel_rfl) (fun _ => ⟨id, id⟩) ?stab ?guard ?c0 ?op ?fin
                  case stab =>
                    intro i wa wb v hi hs hv
                    rcases i with _ | _ | _ | i
                    · exact hv
                    · exact hv
                    · exact hs.1 hv
                    · simp only [show i + 1 + 1 + 1 ≠ 0 by omega, show i + 1 + 1 + 1 ≠ 1 by omega, show i + 1 + 1 + 1 ≠ 2 by omega, if_false] at hv ⊢
                      exact hs.2 hv
                  case guard =>
                    intro i o j b ho hg
                    rcases i with _ | _ | _ | _ | i
                    · obtain rfl := Option.some.inj ho; cases hg
                    · obtain rfl := Option.some.inj ho; cases hg
                    · obtain rfl := Option.some.inj ho; cases hg
                    · obtain rfl := Option.some.inj ho; cases hg
                    · simp at ho
                  case c0 => exact ⟨P8.out, Y8.out, below_drew1 B8.out, ⟨_, A8.out⟩, ⟨_, _, X8.out⟩⟩
                  case op =>
                    intro i o ho vs wc hC hV
                    obtain ⟨c1, c2, c3, ⟨p, c4⟩, ⟨y, f, c5⟩⟩ := hC
                    have hG := HG2.out
                    rcases i with _ | _ | _ | _ | i
                    · obtain rfl := Option.some.inj ho
                      rw [if_pos (by kernel_rfl)]
                      exact runs_load 35 (.tmp 14) rfl gp (by kernel_rfl) 35 _ (0, 0) _ c1 Tryd.underlying35 rfl two_info ⟨⟨c1, c2, c3, ⟨p, c4⟩, ⟨y, f, c5⟩⟩, ⟨id, id⟩, rfl⟩
                    · obtain rfl := Option.some.inj ho
                      rw [if_pos (by kernel_rfl)]
                      exact runs_load 44 (.tmp 16) rfl gq (by kernel_rfl) 44 _ (0, 0) _ c2 Tryd.underlying44 rfl (HI _ _).out ⟨⟨c1, c2, c3, ⟨p, c4⟩, ⟨y, f, c5⟩⟩, ⟨id, id⟩, rfl⟩
                    · obtain rfl := Option.some.inj ho
                      rw [if_pos (by kernel_rfl)]
                      have hv : vs 0 = .agg #[.int .u16 x3, .int .u32 b3] := hV 0 (by kernel_rfl)
                      generalize hρ : rho _ _ _ vs = ρ
                      have e1 : ρ (.tmp 9) = .pointer (some ⟨ga, 0, none⟩) := by rw [← hρ]; kernel_rfl
                      have e2 : ρ (.tmp 108) = vs 0 := by rw [← hρ]; kernel_rfl
                      refine runs_store 35 (.tmp 9) (.tmp 108) rfl ga #[.int .u16 x3, .int .u32 b3] e1 (e2.trans hv) 35 _ c4 two_info rfl (by simp [Value.oneCell']) ⟨⟨?_, ?_, ?_, ⟨(x3, b3), ?_⟩, ⟨y, f, ?_⟩⟩, ⟨fun _ => ?_, fun h => ?_⟩, ?_⟩
                      · exact (setRow_other _ _ _ _ (by omega)).trans c1
                      · exact (setRow_other _ _ _ _ (by omega)).trans c2
                      · exact below_setRow c3 hga _
                      · exact setRow_heap _ _ _ _ _ _ c4
                      · exact (setRow_other _ _ _ _ (by omega)).trans c5
                      · exact setRow_heap _ _ _ _ _ _ c4
                      · exact (setRow_other _ _ _ _ (by omega)).trans h
                      · exact setRow_heap _ _ _ _ _ _ c4
                    · obtain rfl := Option.some.inj ho
                      rw [if_pos (by kernel_rfl)]
                      have hv : vs 1 = .agg (came x3 b3.testBit) := hV 1 (by kernel_rfl)
                      generalize hρ : rho _ _ _ vs = ρ
                      have e1 : ρ (.tmp 10) = .pointer (some ⟨gx, 0, none⟩) := by rw [← hρ]; kernel_rfl
                      have e2 : ρ (.tmp 109) = vs 1 := by rw [← hρ]; kernel_rfl
                      refine runs_store 44 (.tmp 10) (.tmp 109) rfl gx (came x3 b3.testBit) e1 (e2.trans hv) 44 _ c5 (HI _ _).out (by rw [came_size, came_size]) (HO _ _).out ⟨⟨?_, ?_, ?_, ⟨p, ?_⟩, ⟨x3, b3.testBit, ?_⟩⟩, ⟨fun h => ?_, fun _ => ?_⟩, ?_⟩
                      · exact (setRow_other _ _ _ _ (by omega)).trans c1
                      · exact (setRow_other _ _ _ _ (by omega)).trans c2
                      · exact below_setRow c3 hgx2 _
                      · exact (setRow_other _ _ _ _ (by omega)).trans c4
                      · exact setRow_heap _ _ _ _ _ _ c5
                      · exact (setRow_other _ _ _ _ (by omega)).trans h
                      · exact setRow_heap _ _ _ _ _ _ c5
                      · exact setRow_heap _ _ _ _ _ _ c5
                    · simp at ho
                  case fin =>
                    intro vs v9 hC hV
                    have A9 : Aside0 (Two v9 ga (x3, b3)) := ⟨hV 2 (Nat.le_of_ble_eq_true rfl)⟩
                    have X9 : Aside0 (Fn v9 gx x3 b3.testBit) := ⟨hV 3 (Nat.le_of_ble_eq_true rfl)⟩
                    have B9 := Aside0.mk hC.2.2.1
                    clear hC hV A8 X8 P8 Y8 B8
                    simp only [putAll]
                    generalize vs 0 = o0
                    generalize vs 1 = o1
                    generalize vs 2 = o2
                    generalize vs 3 = o3
                    clear vs
                    simp only [Act.put, List.setIfInBounds_toArray, List.set_cons_zero, List.set_cons_succ]
                    go_wp2_with fail
                    go_roundw
                    case rel => exact ⟨j + 1, (x3, b3), by omega, by go_num, ⟨A9.out, X9.out, HF.out.2.1, HF.out.1, B9.out⟩⟩
                    case measure => simp [intOf]; omega
    · have d1 : decide (j < n) = false := decide_eq_false (by omega)
      go_wp2_with fail
      go_ret
      exact ⟨rfl, K.out.2.2.2.2⟩
end Go.Proofs.YtbfcllpjenohlaaDoor
