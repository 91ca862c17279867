/- The walk of OrderAll. -/
import Derived.Test.YtbfcllpjenohlaaDoorDp
import Derived.LoopTactic
import Derived.RegionTactic
import Derived.BigRegion
import Derived.Deep.RegionWith
namespace Go.Proofs.YtbfcllpjenohlaaDoor
open Go.RowKit Go.Proofs.YtbfcllpjenohlaaDoorW.PrintWords Go.Proofs.YtbfcllpjenohlaaDoorW.PrintLast Go.Proofs.YtbfcllpjenohlaaDoorW.PrintMore
set_option linter.unusedVariables false
set_option linter.unusedSimpArgs false

theorem take_snoc {α : Type} {xs : List α} {j : Nat} (h : j < xs.length) : xs.take (j + 1) = xs.take j ++ [xs[j]] := List.take_succ_eq_append_getElem h
theorem rd_getElem {xs : List Int} {j : Nat} (h : j < xs.length) : rd xs (j : Int) = xs[j] := by
  unfold rd; rw [List.getD_eq_getElem?_getD, Int.toNat_natCast, List.getElem?_eq_getElem h]; rfl
/-- An element of a row of whole numbers that is read. -/
theorem int_at {k : IntKind} {w : World} {A : Option Addr} {n : Nat} {xs : List Int} (h : (Kd.int k).C w A n xs) (j : Nat) (hj : j < xs.length) : ∃ ad, A = some ad ∧ w.cell? (ad.add j) = some (.int k xs[j]) := by
  have hn := h.1
  obtain ⟨ad, e, hc⟩ := Kd.at_int h (j : Int) (by omega) (by omega)
  rw [rd_getElem hj, Int.toNat_natCast] at hc
  exact ⟨ad, e, hc⟩
/-- A row of numbers in its block. -/
def Row (w : World) (g : Nat) (q : List Nat) : Prop := w.heap[g]? = some (.cells (q.map fun x : Nat => Value.int .i64 x).toArray 3 (0, 0))
theorem Row.cell {w : World} {g : Nat} {q : List Nat} (h : Row w g q) {i : Nat} (hi : i < q.length) : w.cell? ⟨g, i, none⟩ = some (.int .i64 (q[i] : Nat)) := by
  refine (blk_cell h i).trans ?_
  simp [hi]
theorem Row.frozen {w : World} {g : Nat} {q : List Nat} (h : Row w g q) (i : Nat) : w.frozen? ⟨g, i, none⟩ = false := blk_frozen h i
theorem Row.set {w : World} {g : Nat} {q : List Nat} (h : Row w g q) (i x : Nat) : Row (w.setCell ⟨g, i, none⟩ (.int .i64 (x : Nat))) g (q.set i x) := by
  refine (blk_set h i _).trans ?_
  congr 2
  apply Array.ext'
  simp [List.map_set]

def Z33 : Array Value := ((List.replicate 33 0).map fun x : Nat => Value.int .i64 x).toArray
theorem make33 (w : World) : (Instr.makeSlice 32 (.int .i64 33) (.int .i64 33)).run Tryd.prog w = .ok (.slice (some ⟨w.heap.size, 0, none⟩) 33 33) (w.alloc (.cells Z33 3)) := by kernel_rfl

set_option maxRecDepth 100000 in
set_option maxHeartbeats 4000000 in
theorem all_walk (first : Int) (A : Option Addr) (n c : Nat) (l : List Int) (w : World) (hT : TabAt w) (hf : 0 ≤ first ∧ first < 65536) (hr : (Kd.int .u8).C w A n l) (hc : n ≤ c) (hl : ∀ x ∈ l, 0 ≤ x ∧ x < 256) :
    Calls Tryd.prog 4 #[.int .u16 first, .slice A n c] w fun e w' => e = .returned (.bool true) ∧ Below w.heap.size w w' := by
  have HT := Aside0.mk hT
  have HR := Aside0.mk hr
  have HL := Aside0.mk hl
  have HF := Aside0.mk hf
  have HS := Aside0.mk (some_zero first hf)
  clear hT hr hl hf
  go_enter Tryd.func4, Tryd.ntmps4
  go_wp2_with fail
  refine (awake_any _ HT.out).mono ?_
  rintro e w1 ⟨rfl, hb1⟩
  have HB := Aside0.mk hb1
  clear hb1
  have hm := make33
  go_wp2_with fail
  clear hm
  have G1 : Aside0 (Row (w1.alloc (.cells Z33 3)) w1.heap.size (List.replicate 33 0)) := ⟨blk_new _ _⟩
  have B1 := Aside0.mk (below_alloc HB.out (.cells Z33 3))
  have hg : w.heap.size ≤ w1.heap.size := HB.out.size
  generalize w1.alloc (.cells Z33 3) = w2 at *
  clear HB
  generalize w1.heap.size = g at *
  go_loopw [22] (fun v22 wr => ∃ (j : Nat) (q : List Nat), j ≤ 33 ∧ v22 = .int .i64 j ∧ Aside0 (Row wr g q ∧ q.length = 33 ∧ (∀ i, i < j → q[i]? = some i) ∧ Below w.heap.size w wr)) (fun v22 _ => 33 - (intOf v22).toNat)
  case atStart => exact ⟨0, _, by omega, rfl, ⟨G1.out, by simp, fun i h => absurd h (by omega), B1.out⟩⟩
  case round =>
    obtain ⟨j, q, hj, rfl, H⟩ := hrel
    by_cases hlt : j < 33
    · have hlq : j < q.length := by rw [H.out.2.1]; exact hlt
      have c0 := H.out.1.cell hlq
      have c1 := H.out.1.frozen j
      go_wp2_with fail
      go_roundw
      case rel =>
        refine ⟨j + 1, q.set j j, by omega, by go_num, ⟨H.out.1.set j j, by simp [H.out.2.1], ?_, below_set H.out.2.2.2 hg⟩⟩
        intro i hi
        rw [List.getElem?_set]
        by_cases e : j = i
        · subst e; simp [hlq]
        · simp [e]; exact H.out.2.2.1 i (by omega)
      case measure => simp [intOf]; omega
    · have hq : q = List.range 33 := by
        apply List.ext_getElem?
        intro i
        by_cases h : i < 33
        · rw [H.out.2.2.1 i (by omega)]; simp [h]
        · rw [List.getElem?_eq_none (by rw [H.out.2.1]; omega), List.getElem?_eq_none (by simp; omega)]
      subst hq
      have G2 := Aside0.mk H.out.1
      have B2 := Aside0.mk H.out.2.2.2
      have hlt' := decide_eq_false hlt
      clear H G1 B1 hj
      go_wp2_with fail
      clear hlt hlt'

      go_loopw [32] (fun v32 wr => ∃ (j : Nat) (q : List Nat), j ≤ l.length ∧ v32 = .int .i64 j ∧ Aside0 (Row wr g q ∧ q.Perm (List.range 33) ∧ Below w.heap.size w wr)) (fun v32 _ => l.length - (intOf v32).toNat)
      case atStart => exact ⟨0, _, by omega, rfl, ⟨G2.out, List.Perm.refl _, B2.out⟩⟩
      case round =>
        obtain ⟨j, q, hj, rfl, H⟩ := hrel
        clear G2 B2
        have hn : l.length = n := HR.out.1
        by_cases hlt : j < l.length
        · by_cases h100 : j < 100
          · obtain ⟨ad, hA, hcell⟩ := int_at (Kd.C_below HR.out H.out.2.2) j hlt
            subst hA
            have hx := HL.out _ (List.getElem_mem hlt)
            obtain ⟨x, hxe⟩ := Int.eq_ofNat_of_zero_le hx.1
            rw [hxe] at hcell
            have e1 : (j : Int).tmod 33 = ((j % 33 : Nat) : Int) := by rw [Int.tmod_eq_emod_of_nonneg (by omega)]; omega
            have e2 : (x : Int).tmod 33 = ((x % 33 : Nat) : Int) := by rw [Int.tmod_eq_emod_of_nonneg (by omega)]; omega
            have e5 : wrap64 (x : Int) = (x : Int) := by unfold wrap64; omega
            have e3 : j % 33 < 33 := Nat.mod_lt _ (by omega)
            have e4 : x % 33 < 33 := Nat.mod_lt _ (by omega)
            have hlen : q.length = 33 := by rw [H.out.2.1.length_eq]; simp
            generalize j % 33 = a at *
            generalize x % 33 = b at *
            have ca := H.out.1.cell (i := a) (by omega)
            have cb := H.out.1.cell (i := b) (by omega)
            have fa := H.out.1.frozen a
            have fb := H.out.1.frozen b
            clear hx hxe
            go_wp2_with fail
            go_region
            go_wp2_with fail
            obtain ⟨v', hy'⟩ := cell?_setCell_some (w := wr) (p := ⟨g, a, none⟩) (x := .int .i64 (q[b] : Nat)) (q := ⟨g, b, none⟩) (v := .int .i64 (q[b] : Nat)) cb
            go_region
            all_goals go_wp2_with fail
            go_roundw
            case rel =>
              refine ⟨j + 1, _, by omega, by go_num, ⟨(H.out.1.set a _).set b _, ?_, below_drew1 (below_drew1 (below_set (below_set H.out.2.2 hg) hg))⟩⟩
              exact (swap_perm q a b (by omega) (by omega)).trans H.out.2.1
            case measure => simp [intOf]; omega
          · obtain ⟨ad, hA, hcell⟩ := int_at (Kd.C_below HR.out H.out.2.2) j hlt
            subst hA
            have hj100 : (100 : Int) ≤ j := by omega
            have d1 : decide (j < n) = true := decide_eq_true (by omega)
            have d2 : decide ((100 : Int) ≤ j) = true := decide_eq_true hj100
            have d3 : j < n := by omega
            generalize l[j] = lj at *
            clear hlt hn hj h100
            have hlen : q.length = 33 := by rw [H.out.2.1.length_eq]; simp
            go_wp2_with fail
            have hq33 : ∀ k, k ∈ q ↔ k < 33 := fun k => by rw [H.out.2.1.mem_iff]; simp
            have hnd : q.Nodup := H.out.2.1.nodup_iff.2 List.nodup_range
            have HQ := Aside0.mk (And.intro hq33 hnd)
            have A1 := Aside0.mk (Two.new wr (first, 0))
            have G3 : Aside0 (Row (wr.alloc (.cells #[.int .u16 first, .int .u32 0] 35)) g q) := ⟨blk_alloc H.out.1 _⟩
            have B3 := Aside0.mk (below_alloc H.out.2.2 (.cells #[.int .u16 first, .int .u32 0] 35))
            have hga : w.heap.size ≤ wr.heap.size := H.out.2.2.size
            have hgg : g < wr.heap.size := blk_lt H.out.1
            clear H hq33 hnd
            generalize wr.heap.size = ga at *
            go_loopw [65] (fun v65 wr => ∃ (j : Nat) (p : Int × Nat) (m : Nat), j ≤ 33 ∧ v65 = .int .i64 j ∧ Aside0 (Row wr g q ∧ Two wr ga p ∧ Some33 first (q.take j) p m ∧ Below w.heap.size w wr)) (fun v65 _ => 33 - (intOf v65).toNat)
            case atStart => exact ⟨0, (first, 0), 0, by omega, rfl, ⟨G3.out, A1.out, by simpa using HS.out, B3.out⟩⟩
            case round =>
              clear A1 G3 B3
              obtain ⟨i, ⟨x2, b2⟩, m, hi, rfl, K⟩ := hrel
              by_cases hlt3 : i < 33
              · have hiq : i < q.length := by omega
                have hk : q[i] < 33 := (HQ.out.1 _).1 (List.getElem_mem hiq)
                have hkq : q[i] ∉ q.take i := fun h => by
                  obtain ⟨i', hi', he⟩ := List.mem_iff_getElem.1 h
                  rw [List.getElem_take] at he
                  have h2 : i' < i := by simp at hi'; omega
                  have := (List.getElem_inj HQ.out.2).1 he
                  omega
                obtain ⟨hok, m', hs'⟩ := some_step K.out.2.2.1 hk hkq
                rw [← take_snoc hiq] at hs'
                have hb2 := K.out.2.2.1.2.2.1
                have ck := K.out.1.cell hiq
                have a0 := K.out.2.1.c0
                have a1 := K.out.2.1.c1
                simp only at hok hs' hb2 a0 a1
                obtain ⟨⟨⟨x3, b3⟩, ok⟩, hN⟩ : ∃ R, noteN x2 b2 (plus first (q[i] : Nat)) = R := ⟨_, rfl⟩
                rw [hN] at hok hs'
                simp only at hok
                subst hok
                have HN := Aside0.mk hN
                have HS' := Aside0.mk hs'
                have HB2 := Aside0.mk hb2
                clear hN hs' hb2 hk hkq
                generalize q[i] = k at *
                go_wp2_with fail
                go_region_with (first | (go_at_call 10; refine (add_any first k _).mono ?_; rintro e w' ⟨rfl, nd, rfl⟩) | (go_at_call 13; refine (note_any x2 _ b2 HB2.out _ (HT.out.below (by repeat (first | exact K.out.2.2.2 | apply pw_below_drewN | apply below_drew1)))).mono ?_; rintro e w4 ⟨rfl, hb4⟩; rw [HN.out]; unfold acks; have A4 := Aside0.mk (Two.below (g := ga) (p := (x2, b2)) (by exact K.out.2.1) hb4); have z0 := A4.out.c0; have z1 := A4.out.c1; have y0 := A4.out.f0; have y1 := A4.out.f1))
                all_goals go_wp2_with fail
                all_goals
                  go_roundw
                  case rel =>
                    refine ⟨i + 1, (x3, b3), m', by omega, by go_num, ⟨?_, ?_, HS'.out, ?_⟩⟩
                    · (try apply blk_drew); exact blk_far (blk_far (blk_below (by exact K.out.1) hb4) (by simp; omega) _) (by simp; omega) _
                    · (try apply blk_drew); exact blk_put (blk_put A4.out 0 _ rfl) 1 _ rfl
                    · (try apply below_drew1); exact below_set (below_set (below_step (by repeat (first | exact K.out.2.2.2 | apply pw_below_drewN | apply below_drew1)) hb4) hga) hga
                  case measure => simp [intOf]; omega
              · obtain rfl : i = 33 := by omega
                have K3 := K.out.2.2.1
                rw [List.take_of_length_le (by omega)] at K3
                have he := some_end K3 (fun k hk => (HQ.out.1 k).2 hk)
                simp only [Prod.mk.injEq] at he
                obtain ⟨rfl, rfl⟩ := he
                have a0 := K.out.2.1.c0
                have a1 := K.out.2.1.c1
                clear K3 hi hlt3
                go_wp2_with fail
                go_region_with (first | (go_at_call 10; refine (add_any first 33 _).mono ?_; rintro e w' ⟨rfl, nd, rfl⟩))
                all_goals go_wp2_with fail
                all_goals
                  go_ret
                  exact ⟨rfl, by repeat (first | exact K.out.2.2.2 | apply pw_below_drewN | apply below_drew1)⟩
        · have d1 : decide (j < n) = false := decide_eq_false (by omega)
          clear hlt hn hj
          have hlen : q.length = 33 := by rw [H.out.2.1.length_eq]; simp
          go_wp2_with fail
          have hq33 : ∀ k, k ∈ q ↔ k < 33 := fun k => by rw [H.out.2.1.mem_iff]; simp
          have hnd : q.Nodup := H.out.2.1.nodup_iff.2 List.nodup_range
          have HQ := Aside0.mk (And.intro hq33 hnd)
          have A1 := Aside0.mk (Two.new wr (first, 0))
          have G3 : Aside0 (Row (wr.alloc (.cells #[.int .u16 first, .int .u32 0] 35)) g q) := ⟨blk_alloc H.out.1 _⟩
          have B3 := Aside0.mk (below_alloc H.out.2.2 (.cells #[.int .u16 first, .int .u32 0] 35))
          have hga : w.heap.size ≤ wr.heap.size := H.out.2.2.size
          have hgg : g < wr.heap.size := blk_lt H.out.1
          clear H hq33 hnd
          generalize wr.heap.size = ga at *
          go_loopw [65] (fun v65 wr => ∃ (j : Nat) (p : Int × Nat) (m : Nat), j ≤ 33 ∧ v65 = .int .i64 j ∧ Aside0 (Row wr g q ∧ Two wr ga p ∧ Some33 first (q.take j) p m ∧ Below w.heap.size w wr)) (fun v65 _ => 33 - (intOf v65).toNat)
          case atStart => exact ⟨0, (first, 0), 0, by omega, rfl, ⟨G3.out, A1.out, by simpa using HS.out, B3.out⟩⟩
          case round =>
            clear A1 G3 B3
            obtain ⟨i, ⟨x2, b2⟩, m, hi, rfl, K⟩ := hrel
            by_cases hlt3 : i < 33
            · have hiq : i < q.length := by omega
              have hk : q[i] < 33 := (HQ.out.1 _).1 (List.getElem_mem hiq)
              have hkq : q[i] ∉ q.take i := fun h => by
                obtain ⟨i', hi', he⟩ := List.mem_iff_getElem.1 h
                rw [List.getElem_take] at he
                have h2 : i' < i := by simp at hi'; omega
                have := (List.getElem_inj HQ.out.2).1 he
                omega
              obtain ⟨hok, m', hs'⟩ := some_step K.out.2.2.1 hk hkq
              rw [← take_snoc hiq] at hs'
              have hb2 := K.out.2.2.1.2.2.1
              have ck := K.out.1.cell hiq
              have a0 := K.out.2.1.c0
              have a1 := K.out.2.1.c1
              simp only at hok hs' hb2 a0 a1
              obtain ⟨⟨⟨x3, b3⟩, ok⟩, hN⟩ : ∃ R, noteN x2 b2 (plus first (q[i] : Nat)) = R := ⟨_, rfl⟩
              rw [hN] at hok hs'
              simp only at hok
              subst hok
              have HN := Aside0.mk hN
              have HS' := Aside0.mk hs'
              have HB2 := Aside0.mk hb2
              clear hN hs' hb2 hk hkq
              generalize q[i] = k at *
              go_wp2_with fail
              go_region_with (first | (go_at_call 10; refine (add_any first k _).mono ?_; rintro e w' ⟨rfl, nd, rfl⟩) | (go_at_call 13; refine (note_any x2 _ b2 HB2.out _ (HT.out.below (by repeat (first | exact K.out.2.2.2 | apply pw_below_drewN | apply below_drew1)))).mono ?_; rintro e w4 ⟨rfl, hb4⟩; rw [HN.out]; unfold acks; have A4 := Aside0.mk (Two.below (g := ga) (p := (x2, b2)) (by exact K.out.2.1) hb4); have z0 := A4.out.c0; have z1 := A4.out.c1; have y0 := A4.out.f0; have y1 := A4.out.f1))
              all_goals go_wp2_with fail
              all_goals
                go_roundw
                case rel =>
                  refine ⟨i + 1, (x3, b3), m', by omega, by go_num, ⟨?_, ?_, HS'.out, ?_⟩⟩
                  · (try apply blk_drew); exact blk_far (blk_far (blk_below (by exact K.out.1) hb4) (by simp; omega) _) (by simp; omega) _
                  · (try apply blk_drew); exact blk_put (blk_put A4.out 0 _ rfl) 1 _ rfl
                  · (try apply below_drew1); exact below_set (below_set (below_step (by repeat (first | exact K.out.2.2.2 | apply pw_below_drewN | apply below_drew1)) hb4) hga) hga
                case measure => simp [intOf]; omega
            · obtain rfl : i = 33 := by omega
              have K3 := K.out.2.2.1
              rw [List.take_of_length_le (by omega)] at K3
              have he := some_end K3 (fun k hk => (HQ.out.1 k).2 hk)
              simp only [Prod.mk.injEq] at he
              obtain ⟨rfl, rfl⟩ := he
              have a0 := K.out.2.1.c0
              have a1 := K.out.2.1.c1
              clear K3 hi hlt3
              go_wp2_with fail
              go_region_with (first | (go_at_call 10; refine (add_any first 33 _).mono ?_; rintro e w' ⟨rfl, nd, rfl⟩))
              all_goals go_wp2_with fail
              all_goals
                go_ret
                exact ⟨rfl, by repeat (first | exact K.out.2.2.2 | apply pw_below_drewN | apply below_drew1)⟩
end Go.Proofs.YtbfcllpjenohlaaDoor
