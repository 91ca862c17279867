/- The contract of wax.Table.Open. -/
import Derived.Test.YtadodibnjdeckaaWy
import Derived.Test.YtadodibnjdeckaaO
import Derived.OwnWalk
import Derived.Laws.Cover3
import Derived.Laws.StructEq
namespace Go.Proofs.Ytadodibnjdeckaa
open Go.RowKit Go.Proofs.YtadodibnjdeckaaW.PrintWords Go.Proofs.YtadodibnjdeckaaW.PrintLast Go.Proofs.YtadodibnjdeckaaW.PrintMore
set_option linter.unusedVariables false
set_option linter.unusedSimpArgs false

/-! ### Arrays of whole numbers compared -/
theorem all_range_ints : ∀ (xs ys : List Int), xs.length = ys.length → ((List.range xs.length).all fun i => xs.getD i 0 == ys.getD i 0) = decide (xs = ys)
  | [], [], _ => by simp
  | x :: xs, y :: ys, h => by
    have ih := all_range_ints xs ys (by simpa using h)
    rw [List.length_cons, List.range_succ_eq_map, List.all_cons, List.all_map]
    simp only [List.getD_cons_zero, Function.comp_def, List.getD_cons_succ, ih]
    rw [Bool.eq_iff_iff]
    simp
  | [], _ :: _, h => by simp at h
  | _ :: _, [], h => by simp at h
theorem run_equalIn_ints {P : Program} (w : World) (d : Nat) (k : IntKind) (t e : TypeId) (n : Nat) (ht : P.underlying t = some (.array n e)) (he : P.underlying e = some (.int k)) (hsz : ∀ w, (sizeOf e).run P w = .ok 1 w)
    (xs ys : List Int) (hx : xs.length = n) (hy : ys.length = n) :
    (Op.equalIn (d + 2) t (.agg (xs.map (Value.int k)).toArray) (.agg (ys.map (Value.int k)).toArray)).run P w = .ok (decide (xs = ys)) w := by
  rw [← all_range_ints xs ys (hx.trans hy.symm), hx, List.range_eq_range', Op.equalIn]
  simp only [Sem.run_bind, run_underlying ht, Result.andThen_ok, hsz, Std.Legacy.Range.forIn_eq_forIn_range', Std.Legacy.Range.size, Nat.sub_zero, Nat.add_sub_cancel, Nat.div_one]
  have hl : ∀ i ∈ List.range' 0 n 1, i < n := fun i hi => by simpa using (List.mem_range'_1.1 hi).2
  generalize List.range' 0 n 1 = l at hl ⊢
  induction l with
  | nil => simp
  | cons i l ih =>
    have hi : i < n := hl i (by simp)
    have px : (part e (xs.map (Value.int k)).toArray (i * 1)).run P w = .ok (.int k (xs.getD i 0)) w := by
      simp [part, isAgg, run_underlying he, List.getD, List.getElem?_eq_getElem (show i < xs.length by omega)]
    have py : (part e (ys.map (Value.int k)).toArray (i * 1)).run P w = .ok (.int k (ys.getD i 0)) w := by
      simp [part, isAgg, run_underlying he, List.getD, List.getElem?_eq_getElem (show i < ys.length by omega)]
    have pe : (Op.equalIn (d + 1) e (.int k (xs.getD i 0)) (.int k (ys.getD i 0))).run P w = .ok (xs.getD i 0 == ys.getD i 0) w := run_equalIn_int w d e k k _ _ he
    simp only [List.forIn_cons, Sem.run_bind, px, py, pe, Result.andThen_ok, List.all_cons]
    cases hb : (xs.getD i 0 == ys.getD i 0)
    · simp
    · simp only [Bool.not_true, Bool.false_eq_true, if_false, Sem.run_pure, Result.andThen_ok, Bool.true_and]
      exact ih fun j hj => hl j (by simp [hj])

set_option maxRecDepth 100000 in
set_option maxHeartbeats 1000000 in
/-- Too short. -/
theorem open_short (T : Array Value) (A : Option Addr) (n c : Nat) (w : World) (hn : n < 4) :
    Calls Try.prog 16 #[.agg T, .slice A n c] w fun e w' => e = .returned (.tuple #[.slice none 0 0, .int .i64 2]) ∧ Below w.heap.size w w' := by
  go_enter Try.func16, Try.ntmps16
  go_wp2
  go_ret2
  exact ⟨rfl, below_alloc (Below.refl _ _) _⟩

set_option maxRecDepth 100000 in
set_option maxHeartbeats 2000000 in
theorem open_long (β : Bool) (tb : Nat → Nat) (T : Array Value) (A : Option Addr) (n c : Nat) (l : List Int) (w : World) (hT : IsTab tb T) (hr0 : (Kd.int .u8).C w A n l) (hc : n ≤ c) (hb : Bytes l) (hn4 : 4 ≤ n) (hnr : n ≤ 140737488351232) (hq : decide (l.drop (n - 4) = tailL (sumN tb (l.take (n - 4)))) = β) :
    Calls Try.prog 16 #[.agg T, .slice A n c] w fun e w' => ∃ v, e = .returned (.tuple #[v, .int .i64 (if β then 0 else 5)]) ∧ (Kd.int .u8).R 5 w' w.heap.size (fun _ => True) v (if β then l.take (n - 4) else []) ∧ Below w.heap.size w w' := by
  have HR0 := Aside0.mk hr0
  have HT := Aside0.mk hT
  have hnm := hr0.2.1
  have hln := hr0.1
  clear hT
  have Hsz : Aside0 ((Try.prog.info? 28).map (·.size) = some T.size) := ⟨by rw [HT.out.size]; kernel_rfl⟩
  obtain ⟨k, rfl⟩ : ∃ k, n = k + 4 := ⟨n - 4, by omega⟩
  rw [show k + 4 - 4 = k by omega] at *
  obtain ⟨A1, hq1, hC1⟩ := cut_lo (P := Try.prog) .u8 .i64 22 5 1 Try.underlying22 wx_info5 A (k + 4) c k (by omega) hc
  obtain ⟨hq2, hC2⟩ := cut_hi (P := Try.prog) .u8 .i64 22 5 1 Try.underlying22 wx_info5 A (k + 4) c k (by omega) hc
  have HC1 := Aside0.mk (hC1 w l hr0)
  have HC2 := Aside0.mk (hC2 w l hr0)
  rw [show k + 4 - k = 4 by omega] at HC1 hq1
  have hdl : (l.drop k).length = 4 := HC1.out.1
  obtain ⟨x0, x1, x2, x3, hx⟩ : ∃ x0 x1 x2 x3, l.drop k = [x0, x1, x2, x3] := by
    match h : l.drop k, hdl with
    | [a, b, c, d], _ => exact ⟨a, b, c, d, rfl⟩
  rw [hx] at HC1 hq
  obtain ⟨ad, rfl, h0⟩ := int_at HC1.out 0 (by simp)
  obtain ⟨ad', e1, h1⟩ := int_at HC1.out 1 (by simp)
  cases e1
  obtain ⟨ad', e1, h2⟩ := int_at HC1.out 2 (by simp)
  cases e1
  obtain ⟨ad', e1, h3⟩ := int_at HC1.out 3 (by simp)
  cases e1
  simp only [List.getElem_cons_zero, List.getElem_cons_succ] at h0 h1 h2 h3
  have ha1 : ad.add 0 = ad := rfl
  have ha2 : ∀ i, 0 < i → ad.add i = ⟨ad.block, ad.off + i, none⟩ := fun i hi => by unfold Addr.add; rw [if_neg (by omega)]
  rw [ha1] at h0
  rw [ha2 _ (by omega)] at h1 h2 h3
  clear ha1 ha2
  have HX := Aside0.mk (And.intro h0 (And.intro h1 (And.intro h2 h3)))
  have HBT := Aside0.mk (hb.take k)
  have hml : sumN tb (l.take k) < 4294967296 := by unfold sumN; omega
  generalize hm : sumN tb (l.take k) = m at *
  have HMM := Lib.hid hm
  clear hm
  clear hr0 hC1 hC2 hb hx h0 h1 h2 h3
  have HQ : Aside0 (decide ([x0, x1, x2, x3] = tailL m) = β) := ⟨hq⟩
  clear hq
  have harr : ∀ (W : World) (c : Nat), (Instr.arrayAt 48 (.slice (some ad) 4 c)).run Try.prog W = .ok (.pointer (some ad)) W := fun W c => run_arrayAt W _ _ 4 _ _ _ Try.underlying48 (Nat.le_refl _)
  have h5 : ∀ w, (sizeOf 5).run Try.prog w = .ok 1 w := fun w => by kernel_rfl
  go_enter Try.func16, Try.ntmps16
  go_wp2
  obtain ⟨W, hW⟩ : ∃ W, W = w.alloc (Obj.cells T 28) := ⟨_, rfl⟩
  rw [← hW]
  have HBW := Aside0.mk (show Below w.heap.size w W from by rw [hW]; exact below_alloc (Below.refl _ _) _)
  have HGW := Aside0.mk (show W.heap[w.heap.size]? = some (.cells T 28 (0, 0)) from by rw [hW]; exact heap_alloc_new _ _)
  have HC2W := Aside0.mk (Kd.C_below HC2.out HBW.out)
  clear hW
  generalize w.heap.size = g at HGW ⊢
  try go_frame
  refine region_grown (W := W)
    [fun (w : World) (v : Value) => v = .slice A (k + 4) c,
   fun (w : World) (v : Value) => v = .int .i64 k,
   fun (w : World) (v : Value) => v = .slice (some ad) 4 (c - k),
   fun (w : World) (v : Value) => v = .pointer (some ad),
   fun (w : World) (v : Value) => v = .agg #[.int .u8 x0, .int .u8 x1, .int .u8 x2, .int .u8 x3],
   fun (w : World) (v : Value) => v = .agg T,
   fun (w : World) (v : Value) => v = .slice A (k + 4) c,
   fun (w : World) (v : Value) => v = .int .i64 k,
   fun (w : World) (v : Value) => v = .slice A k c,
   fun (w : World) (v : Value) => v = tailV m,
   fun (w : World) (v : Value) => v = .bool (!β)]
    (fun j =>  none)
    [(0, some 12), (1, some 13), (2, some 14), (3, some 15), (4, some 16), (5, some 17), (6, some 18), (7, some 19), (8, some 20), (9, some 21), (10, some 22)]
    []
    (by kernel_rfl) (by kernel_rfl) (by kernel_rfl) (by kernel_rfl) ?r4_1g ?r4_1s ⟨?r4_1o0, ?r4_1o1, ?r4_1o2, ?r4_1o3, ?r4_1o4, ?r4_1o5, ?r4_1o6, ?r4_1o7, ?r4_1o8, ?r4_1o9, ?r4_1o10, trivial⟩ ?r4_1e
  case r4_1g =>
    intro j hj; cases hj
  case r4_1s =>
    refine ⟨(fun w w' v hb h => h), (fun w w' v hb h => h), (fun w w' v hb h => h), (fun w w' v hb h => h), (fun w w' v hb h => h), (fun w w' v hb h => h), (fun w w' v hb h => h), (fun w w' v hb h => h), (fun w w' v hb h => h), (fun w w' v hb h => h), (fun w w' v hb h => h), trivial⟩
  case r4_1o0 =>
    intro vs w hb hV
    rw [if_pos (by kernel_rfl)]
    generalize hρ : rho _ _ _ vs = ρ
    have e1 : ρ (.tmp 1) = .slice A (k + 4) c := by rw [← hρ]; kernel_rfl
    clear hρ hV
    refine runs_val (v := .slice A (k + 4) c) (w' := w) ?_ ⟨Below.refl _ _, rfl⟩
    go_simp
  case r4_1o1 =>
    intro vs w hb hV
    rw [if_pos (by kernel_rfl)]
    generalize hρ : rho _ _ _ vs = ρ
    have e6 : ρ (.tmp 6) = .int .i64 k := by rw [← hρ]; kernel_rfl
    clear hρ hV
    refine runs_val (v := .int .i64 k) (w' := w) ?_ ⟨Below.refl _ _, rfl⟩
    go_simp
  case r4_1o2 =>
    intro vs w hb hV
    rw [if_pos (by kernel_rfl)]
    generalize hρ : rho _ _ _ vs = ρ
    have d12 : (vs 0) = .slice A (k + 4) c := hV 0 (by kernel_rfl)
    have e12 : ρ (.tmp 12) = vs 0 := by rw [← hρ]; kernel_rfl
    rw [d12] at e12; clear d12
    have d13 : (vs 1) = .int .i64 k := hV 1 (by kernel_rfl)
    have e13 : ρ (.tmp 13) = vs 1 := by rw [← hρ]; kernel_rfl
    rw [d13] at e13; clear d13
    clear hρ hV
    refine runs_val (v := .slice (some ad) 4 (c - k)) (w' := w) ?_ ⟨Below.refl _ _, rfl⟩
    go_simp
  case r4_1o3 =>
    intro vs w hb hV
    rw [if_pos (by kernel_rfl)]
    generalize hρ : rho _ _ _ vs = ρ
    have d14 : (vs 2) = .slice (some ad) 4 (c - k) := hV 2 (by kernel_rfl)
    have e14 : ρ (.tmp 14) = vs 2 := by rw [← hρ]; kernel_rfl
    rw [d14] at e14; clear d14
    clear hρ hV
    refine runs_val (v := .pointer (some ad)) (w' := w) ?_ ⟨Below.refl _ _, rfl⟩
    go_simp
  case r4_1o4 =>
    intro vs w hb hV
    rw [if_pos (by kernel_rfl)]
    generalize hρ : rho _ _ _ vs = ρ
    have d15 : (vs 3) = .pointer (some ad) := hV 3 (by kernel_rfl)
    have e15 : ρ (.tmp 15) = vs 3 := by rw [← hρ]; kernel_rfl
    rw [d15] at e15; clear d15
    clear hρ hV
    have hbw := below_step HBW.out hb
    have g0 := pw_cell_below hbw HX.out.1
    have g1 := pw_cell_below hbw HX.out.2.1
    have g2 := pw_cell_below hbw HX.out.2.2.1
    have g3 := pw_cell_below hbw HX.out.2.2.2
    refine runs_val (v := .agg #[.int .u8 x0, .int .u8 x1, .int .u8 x2, .int .u8 x3]) (w' := w) ?_ ⟨Below.refl _ _, rfl⟩
    go_simp
  case r4_1o5 =>
    intro vs w hb hV
    rw [if_pos (by kernel_rfl)]
    generalize hρ : rho _ _ _ vs = ρ
    have e2 : ρ (.tmp 2) = .pointer (some ⟨g, 0, none⟩) := by rw [← hρ]; kernel_rfl
    clear hρ hV
    exact runs_load 28 (.tmp 2) rfl g e2 28 T (0, 0) _ ((hb.block g (blk_lt HGW.out)).trans HGW.out) Try.underlying28 rfl Hsz.out ⟨Below.refl _ _, rfl⟩
  case r4_1o6 =>
    intro vs w hb hV
    rw [if_pos (by kernel_rfl)]
    generalize hρ : rho _ _ _ vs = ρ
    have e1 : ρ (.tmp 1) = .slice A (k + 4) c := by rw [← hρ]; kernel_rfl
    clear hρ hV
    refine runs_val (v := .slice A (k + 4) c) (w' := w) ?_ ⟨Below.refl _ _, rfl⟩
    go_simp
  case r4_1o7 =>
    intro vs w hb hV
    rw [if_pos (by kernel_rfl)]
    generalize hρ : rho _ _ _ vs = ρ
    have e6 : ρ (.tmp 6) = .int .i64 k := by rw [← hρ]; kernel_rfl
    clear hρ hV
    refine runs_val (v := .int .i64 k) (w' := w) ?_ ⟨Below.refl _ _, rfl⟩
    go_simp
  case r4_1o8 =>
    intro vs w hb hV
    rw [if_pos (by kernel_rfl)]
    generalize hρ : rho _ _ _ vs = ρ
    have d18 : (vs 6) = .slice A (k + 4) c := hV 6 (by kernel_rfl)
    have e18 : ρ (.tmp 18) = vs 6 := by rw [← hρ]; kernel_rfl
    rw [d18] at e18; clear d18
    have d19 : (vs 7) = .int .i64 k := hV 7 (by kernel_rfl)
    have e19 : ρ (.tmp 19) = vs 7 := by rw [← hρ]; kernel_rfl
    rw [d19] at e19; clear d19
    clear hρ hV
    refine runs_val (v := .slice A k c) (w' := w) ?_ ⟨Below.refl _ _, rfl⟩
    go_simp
  case r4_1o9 =>
    intro vs w hb hV
    rw [if_pos (by kernel_rfl)]
    generalize hρ : rho _ _ _ vs = ρ
    have d17 : (vs 5) = .agg T := hV 5 (by kernel_rfl)
    have e17 : ρ (.tmp 17) = vs 5 := by rw [← hρ]; kernel_rfl
    rw [d17] at e17; clear d17
    have d20 : (vs 8) = .slice A k c := hV 8 (by kernel_rfl)
    have e20 : ρ (.tmp 20) = vs 8 := by rw [← hρ]; kernel_rfl
    rw [d20] at e20; clear d20
    have ef21 : ρ (.func 21) = .func (.func 21) #[] #[] := by rw [← hρ]; rfl
    clear hρ hV
    refine runs_call (f := 21) (args := #[.agg T, .slice A k c]) (w' := w) ?_ ?_
    · go_simp
    · refine (tail_any tb T _ _ _ (l.take k) _ HT.out (Kd.C_below HC2W.out hb) (by omega) HBT.out).mono ?_
      rintro e w5 ⟨rfl, hb5⟩
      exact ⟨_, by rw [HMM.out], hb5, rfl⟩
  case r4_1o10 =>
    intro vs w hb hV
    rw [if_pos (by kernel_rfl)]
    generalize hρ : rho _ _ _ vs = ρ
    have d16 : (vs 4) = .agg #[.int .u8 x0, .int .u8 x1, .int .u8 x2, .int .u8 x3] := hV 4 (by kernel_rfl)
    have e16 : ρ (.tmp 16) = vs 4 := by rw [← hρ]; kernel_rfl
    rw [d16] at e16; clear d16
    have d21 : (vs 9) = tailV m := hV 9 (by kernel_rfl)
    have e21 : ρ (.tmp 21) = vs 9 := by rw [← hρ]; kernel_rfl
    rw [d21] at e21; clear d21
    clear hρ hV
    refine runs_val (v := .bool (!β)) (w' := w) ?_ ⟨Below.refl _ _, rfl⟩
    have heq := run_equalIn_ints (P := Try.prog) w 9998 .u8 48 5 4 Try.underlying48 Try.underlying5 h5 [x0, x1, x2, x3] (tailL m) rfl rfl
    rw [HQ.out] at heq
    have e16' : ρ (.tmp 16) = .agg (([x0, x1, x2, x3]).map (Value.int .u8)).toArray := e16
    have e21' : ρ (.tmp 21) = .agg ((tailL m).map (Value.int .u8)).toArray := e21
    clear e16 e21
    generalize (([x0, x1, x2, x3]).map (Value.int .u8)).toArray = y1 at *
    generalize ((tailL m).map (Value.int .u8)).toArray = y2 at *
    go_simp
  case r4_1e =>
    intro vs W2 hb2 hV
    have d12 : (vs 0) = .slice A (k + 4) c := hV 0 (Nat.le_of_ble_eq_true rfl)
    have d13 : (vs 1) = .int .i64 k := hV 1 (Nat.le_of_ble_eq_true rfl)
    have d14 : (vs 2) = .slice (some ad) 4 (c - k) := hV 2 (Nat.le_of_ble_eq_true rfl)
    have d15 : (vs 3) = .pointer (some ad) := hV 3 (Nat.le_of_ble_eq_true rfl)
    have d16 : (vs 4) = .agg #[.int .u8 x0, .int .u8 x1, .int .u8 x2, .int .u8 x3] := hV 4 (Nat.le_of_ble_eq_true rfl)
    have d17 : (vs 5) = .agg T := hV 5 (Nat.le_of_ble_eq_true rfl)
    have d18 : (vs 6) = .slice A (k + 4) c := hV 6 (Nat.le_of_ble_eq_true rfl)
    have d19 : (vs 7) = .int .i64 k := hV 7 (Nat.le_of_ble_eq_true rfl)
    have d20 : (vs 8) = .slice A k c := hV 8 (Nat.le_of_ble_eq_true rfl)
    have d21 : (vs 9) = tailV m := hV 9 (Nat.le_of_ble_eq_true rfl)
    have d22 : (vs 10) = .bool (!β) := hV 10 (Nat.le_of_ble_eq_true rfl)
    clear hV
    simp only [putAll]
    rw [d12, d13, d14, d15, d16, d17, d18, d19, d20, d21, d22]
    clear d12 d13 d14 d15 d16 d17 d18 d19 d20 d21 d22
    clear vs
    simp only [Act.put, List.setIfInBounds_toArray, List.set_cons_zero, List.set_cons_succ]
    have HB2 := Aside0.mk (below_step HBW.out hb2)
    have HC3 := Aside0.mk (Kd.C_below HC2W.out hb2)
    clear hb2 HBW HC2W HGW
    cases β with
    | false =>
      go_wp2
      go_ret2
      exact ⟨_, rfl, Kd.R_nil _ _ _ _ _, HB2.out⟩
    | true =>
      go_wp2_with fail
      refine (clone_any _ _ _ (l.take k) _ HC3.out (by omega)).mono ?_
      rintro e w5 ⟨v5, rfl, ho5, hb5⟩
      have HO5 := Aside0.mk (Kd.R_lower ho5 HB2.out.size)
      have HB5 := Aside0.mk (below_step HB2.out hb5)
      clear ho5 hb5
      go_wp2
      go_ret2
      exact ⟨_, rfl, HO5.out, HB5.out⟩

end Go.Proofs.Ytadodibnjdeckaa
