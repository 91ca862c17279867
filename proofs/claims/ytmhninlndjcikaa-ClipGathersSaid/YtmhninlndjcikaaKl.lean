/- The document's basket: Put, what is taken. -/
import Derived.Test.YtmhninlndjcikaaKj
import Derived.RegionTactic
import Derived.BigRegion
namespace Go.Proofs.Ytmhninlndjcikaa
open Go.RowKit Go.Proofs.YtmhninlndjcikaaW.PrintWords Go.Proofs.YtmhninlndjcikaaW.PrintLast Go.Proofs.YtmhninlndjcikaaW.PrintMore
set_option linter.unusedVariables false
set_option linter.unusedSimpArgs false

set_option maxRecDepth 100000 in
set_option maxHeartbeats 16000000 in
theorem refput_yes (base g : Nat) (OK : Nat → Prop) (L : List Pc) (sk f lb : Bool) (v : Value) (A : Option Addr) (n c : Nat) (q : List Int) (w : World) (hk : Rb w base g OK L sk v) (hb : base ≤ g) (hs : sk = true → f = true) (hf : (f = true ∧ L = []) ∨ (f = false ∧ L ≠ [])) (hn : n ≤ 64) (hl : lb = false → n = 64) (hshort : (allD L).length + n ≤ 1024)
    (hq : (Kd.int .u8).R 5 w base (fun b => b ≠ g ∧ OK b ∧ some b ≠ v.ownBlock) (.slice A n c) q) (hOK : ∀ b, w.heap.size ≤ b → OK b) (hLn : L.length ≤ 1000) :
    Calls Try.prog 17 #[.pointer (some ⟨g, 0, none⟩), .agg #[.bool f, .bool lb, .slice A n c]] w fun e w' => ∃ vo v', e = .returned (.tuple #[vo, .bool lb, .int .i64 0]) ∧ (Kd.int .u8).R 5 w' base (fun _ => True) vo (if lb = true then allD (L ++ [⟨f, lb, q⟩]) else []) ∧ RPut w w' base g OK v (if lb = true then [] else L ++ [⟨f, lb, q⟩]) false v' := by
  obtain ⟨Q, d, hv⟩ := Kd.R_slice hk.2
  subst hv
  obtain ⟨m, hm⟩ : ∃ m, L.length = m := ⟨_, rfl⟩
  rw [hm] at hk hq hLn ⊢
  have hB0 := below_alloc (Below.refl w.heap.size w) (.cells #[.bool f, .bool lb, .slice A n c] 49)
  have HB0 := Aside0.mk hB0
  have HK := Aside0.mk (hk.below hB0)
  have HQ := Aside0.mk (Kd.R_below hq hB0)
  have c0 := blk_cell HK.out.1 0
  have c1 := blk_cell HK.out.1 1
  have HBG := Aside0.mk hb
  have HGL := Aside0.mk (blk_lt hk.1)
  have HX := Aside0.mk (blk_new w (.cells #[.bool f, .bool lb, .slice A n c] 49))
  have HOWN : Aside0 ((Value.slice Q m d).ownBlock ≠ some w.heap.size) := ⟨fun e => by
    obtain ⟨inner, ho⟩ := Kd.R_own hk.2
    exact Nat.lt_irrefl _ (own_lt ho _ e)⟩
  have hf2 : (f = true ∧ m = 0) ∨ (f = false ∧ 0 < m) := by
    rcases hf with ⟨h1, h2⟩ | ⟨h1, h2⟩
    · exact .inl ⟨h1, by rw [← hm, h2]; rfl⟩
    · refine .inr ⟨h1, ?_⟩
      cases L with
      | nil => exact absurd rfl h2
      | cons x l => rw [← hm]; simp
  have hsf : sk = false ∨ (sk = true ∧ f = true) := by
    cases sk
    · exact .inl rfl
    · exact .inr ⟨rfl, hs rfl⟩
  obtain ⟨ta, hta⟩ : ∃ ta, (allD L).length = ta := ⟨_, rfl⟩
  have HTA := Aside0.mk hta
  have HM := Aside0.mk hm
  rw [hta] at hshort
  have hLD : (allD (L ++ [⟨f, lb, q⟩])).length ≤ 100000 := by
    have := (R_C hq).1
    unfold allD at hta ⊢
    rw [List.map_append, List.flatten_append, List.length_append, hta]
    simp [this]; omega
  have HLD := Aside0.mk hLD
  have h5 : ¬ (1024 : Int) < (ta : Int) + (n : Int) := by omega
  have h5' : (ta : Int) + (n : Int) ≤ 1024 := by omega
  have d4 : decide ((1024 : Int) < (ta : Int) + (n : Int)) = false := decide_eq_false h5
  have d1 : decide (64 < (n : Int)) = false := decide_eq_false (by omega)
  have HOK := Aside0.mk hOK
  have h3 : (lb = false ∧ decide ((n : Int) < 64) = false) ∨ (lb = true ∧ decide ((n : Int) < 64) = false) ∨ (lb = true ∧ decide ((n : Int) < 64) = true) := by
    cases lb
    · have := hl rfl; exact .inl ⟨rfl, decide_eq_false (by omega)⟩
    · by_cases e : n < 64
      · exact .inr (.inr ⟨rfl, decide_eq_true (by omega)⟩)
      · exact .inr (.inl ⟨rfl, decide_eq_false (by omega)⟩)
  clear hk hB0 hb hs hf hl hm hta hq hOK hLD
  rcases hf2 with ⟨rfl, rfl⟩ | ⟨rfl, h2⟩
  ·
    rcases hsf with rfl | ⟨rfl, _⟩
    ·
      rcases h3 with ⟨rfl, h3⟩ | ⟨rfl, h3⟩ | ⟨rfl, h3⟩
      ·
        go_enter Try.func17, Try.ntmps17
        go_wp2_with fail
        generalize hV : w.alloc (.cells #[.bool _, .bool _, .slice A n c] 49) = V at *
        obtain ⟨gx, hgx⟩ : ∃ gx, gx = w.heap.size := ⟨_, rfl⟩
        rw [← hgx]
        rw [← hgx] at HX HOWN
        have HGX := Aside0.mk hgx
        have HV := Aside0.mk hV
        have hgl : g < gx := by rw [hgx]; exact HGL.out
        have HGXL := Aside0.mk (blk_lt HX.out)
        clear hgx hV
        try go_frame
        refine region_grown (W := V)
          [fun (w : World) (v : Value) => v = .pointer (some ⟨g, 0, none⟩),
   fun (w : World) (v : Value) => ∃ A3 c3, v = Value.slice A3 ta c3,
   fun (w : World) (v : Value) => v = .int .i64 ta,
   fun (w : World) (v : Value) => v = .pointer (some ⟨gx, 2, none⟩),
   fun (w : World) (v : Value) => v = .slice A n c,
   fun (w : World) (v : Value) => v = .int .i64 n,
   fun (w : World) (v : Value) => v = .int .i64 ((ta : Int) + (n : Int)),
   fun (w : World) (v : Value) => v = .bool false,
   fun (w : World) (v : Value) => v = .bool false]
          (fun j =>  none)
          [(0, some 59), (1, some 60), (2, some 61), (3, some 62), (4, some 63), (5, some 64), (6, some 65), (7, some 66), (8, some 58)]
          []
          (by kernel_rfl) (by kernel_rfl) (by kernel_rfl) (by kernel_rfl) ?r8_1g ?r8_1s ⟨?r8_1o0, ?r8_1o1, ?r8_1o2, ?r8_1o3, ?r8_1o4, ?r8_1o5, ?r8_1o6, ?r8_1o7, ?r8_1o8, trivial⟩ ?r8_1e
        case r8_1g =>
          intro j hj; cases hj
        case r8_1s =>
          refine ⟨(fun w w' v hb h => h), (fun w w' v hb h => h), (fun w w' v hb h => h), (fun w w' v hb h => h), (fun w w' v hb h => h), (fun w w' v hb h => h), (fun w w' v hb h => h), (fun w w' v hb h => h), (fun w w' v hb h => h), trivial⟩
        case r8_1o0 =>
          intro vs w hb hV
          rw [if_pos (by kernel_rfl)]
          generalize hρ : rho _ _ _ vs = ρ
          have e0 : ρ (.tmp 0) = .pointer (some ⟨g, 0, none⟩) := by rw [← hρ]; kernel_rfl
          clear hρ hV
          refine runs_val (v := .pointer (some ⟨g, 0, none⟩)) (w' := w) ?_ ⟨Below.refl _ _, rfl⟩
          go_simp <;> (first | exact IntWalk.u64_in _ (by omega) | exact IntWalk.u32_in _ (by omega) | exact IntWalk.u16_in _ (by omega) | exact IntWalk.u8_in _ (by omega) | exact IntWalk.i64_in _ (by omega) | skip)
        case r8_1o1 =>
          intro vs w hb hV
          rw [if_pos (by kernel_rfl)]
          generalize hρ : rho _ _ _ vs = ρ
          have d59 : (vs 0) = .pointer (some ⟨g, 0, none⟩) := hV 0 (by kernel_rfl)
          have e59 : ρ (.tmp 59) = vs 0 := by rw [← hρ]; kernel_rfl
          rw [d59] at e59; clear d59
          have ef19 : ρ (.func 19) = .func (.func 19) #[] #[] := by rw [← hρ]; rfl
          clear hρ hV
          refine runs_call (f := 19) (args := #[.pointer (some ⟨g, 0, none⟩)]) (w' := w) ?_ ?_
          · go_simp
          · refine (refheld_any g Q _ d L _ _ (blk_below HK.out.1 hb) (Kd.C_below (R_C HK.out.2).2.2 hb) (R_C HK.out.2).2.1 (by rw [HTA.out]; omega)).mono ?_
            rintro e w5 ⟨v5, rfl, hR, hb5⟩
            obtain ⟨A3, c3, e5⟩ := Kd.R_slice hR
            exact ⟨v5, rfl, hb5, A3, c3, by rw [e5, HTA.out]⟩
        case r8_1o2 =>
          intro vs w hb hV
          rw [if_pos (by kernel_rfl)]
          generalize hρ : rho _ _ _ vs = ρ
          have d60 : (fun (w : World) (v : Value) => ∃ A3 c3, v = Value.slice A3 ta c3) w (vs 1) := hV 1 (by kernel_rfl)
          have e60 : ρ (.tmp 60) = vs 1 := by rw [← hρ]; kernel_rfl
          obtain ⟨A3, c3, h60⟩ := d60
          clear hρ hV
          rw [h60] at e60
          refine runs_val (v := .int .i64 ta) (w' := w) ?_ ⟨Below.refl _ _, rfl⟩
          go_simp
        case r8_1o3 =>
          intro vs w hb hV
          rw [if_pos (by kernel_rfl)]
          generalize hρ : rho _ _ _ vs = ρ
          have e3 : ρ (.tmp 3) = .pointer (some ⟨gx, 0, none⟩) := by rw [← hρ]; kernel_rfl
          clear hρ hV
          refine runs_val (v := .pointer (some ⟨gx, 2, none⟩)) (w' := w) ?_ ⟨Below.refl _ _, rfl⟩
          go_simp <;> (first | exact IntWalk.u64_in _ (by omega) | exact IntWalk.u32_in _ (by omega) | exact IntWalk.u16_in _ (by omega) | exact IntWalk.u8_in _ (by omega) | exact IntWalk.i64_in _ (by omega) | skip)
        case r8_1o4 =>
          intro vs w hb hV
          rw [if_pos (by kernel_rfl)]
          generalize hρ : rho _ _ _ vs = ρ
          have d62 : (vs 3) = .pointer (some ⟨gx, 2, none⟩) := hV 3 (by kernel_rfl)
          have e62 : ρ (.tmp 62) = vs 3 := by rw [← hρ]; kernel_rfl
          rw [d62] at e62; clear d62
          clear hρ hV
          have c2 := pw_cell_below hb (blk_cell HX.out 2)
          refine runs_val (v := .slice A n c) (w' := w) ?_ ⟨Below.refl _ _, rfl⟩
          go_simp
        case r8_1o5 =>
          intro vs w hb hV
          rw [if_pos (by kernel_rfl)]
          generalize hρ : rho _ _ _ vs = ρ
          have d63 : (vs 4) = .slice A n c := hV 4 (by kernel_rfl)
          have e63 : ρ (.tmp 63) = vs 4 := by rw [← hρ]; kernel_rfl
          rw [d63] at e63; clear d63
          clear hρ hV
          refine runs_val (v := .int .i64 n) (w' := w) ?_ ⟨Below.refl _ _, rfl⟩
          go_simp <;> (first | exact IntWalk.u64_in _ (by omega) | exact IntWalk.u32_in _ (by omega) | exact IntWalk.u16_in _ (by omega) | exact IntWalk.u8_in _ (by omega) | exact IntWalk.i64_in _ (by omega) | skip)
        case r8_1o6 =>
          intro vs w hb hV
          rw [if_pos (by kernel_rfl)]
          generalize hρ : rho _ _ _ vs = ρ
          have d61 : (vs 2) = .int .i64 ta := hV 2 (by kernel_rfl)
          have e61 : ρ (.tmp 61) = vs 2 := by rw [← hρ]; kernel_rfl
          rw [d61] at e61; clear d61
          have d64 : (vs 5) = .int .i64 n := hV 5 (by kernel_rfl)
          have e64 : ρ (.tmp 64) = vs 5 := by rw [← hρ]; kernel_rfl
          rw [d64] at e64; clear d64
          clear hρ hV
          refine runs_val (v := .int .i64 ((ta : Int) + (n : Int))) (w' := w) ?_ ⟨Below.refl _ _, rfl⟩
          go_simp <;> (first | exact IntWalk.u64_in _ (by omega) | exact IntWalk.u32_in _ (by omega) | exact IntWalk.u16_in _ (by omega) | exact IntWalk.u8_in _ (by omega) | exact IntWalk.i64_in _ (by omega) | skip)
        case r8_1o7 =>
          intro vs w hb hV
          rw [if_pos (by kernel_rfl)]
          generalize hρ : rho _ _ _ vs = ρ
          have d65 : (vs 6) = .int .i64 ((ta : Int) + (n : Int)) := hV 6 (by kernel_rfl)
          have e65 : ρ (.tmp 65) = vs 6 := by rw [← hρ]; kernel_rfl
          rw [d65] at e65; clear d65
          have econ : ∀ v : Value, ρ (.const v) = v := fun v => by rw [← hρ]; rfl
          clear hρ hV
          refine runs_val (v := .bool false) (w' := w) ?_ ⟨Below.refl _ _, rfl⟩
          go_simp <;> (first | exact IntWalk.u64_in _ (by omega) | exact IntWalk.u32_in _ (by omega) | exact IntWalk.u16_in _ (by omega) | exact IntWalk.u8_in _ (by omega) | exact IntWalk.i64_in _ (by omega) | skip)
        case r8_1o8 =>
          intro vs w hb hV
          rw [if_pos (by kernel_rfl)]
          generalize hρ : rho _ _ _ vs = ρ
          have d66 : (vs 7) = .bool false := hV 7 (by kernel_rfl)
          have e66 : ρ (.tmp 66) = vs 7 := by rw [← hρ]; kernel_rfl
          rw [d66] at e66; clear d66
          clear hρ hV
          refine runs_val (v := .bool false) (w' := w) ?_ ⟨Below.refl _ _, rfl⟩
          go_simp <;> (first | exact IntWalk.u64_in _ (by omega) | exact IntWalk.u32_in _ (by omega) | exact IntWalk.u16_in _ (by omega) | exact IntWalk.u8_in _ (by omega) | exact IntWalk.i64_in _ (by omega) | skip)
        case r8_1e =>
          intro vs V2 hb2 hV
          have d59 : (vs 0) = .pointer (some ⟨g, 0, none⟩) := hV 0 (Nat.le_of_ble_eq_true rfl)
          have d60 : (fun (w : World) (v : Value) => ∃ A3 c3, v = Value.slice A3 ta c3) V2 (vs 1) := hV 1 (Nat.le_of_ble_eq_true rfl)
          have d61 : (vs 2) = .int .i64 ta := hV 2 (Nat.le_of_ble_eq_true rfl)
          have d62 : (vs 3) = .pointer (some ⟨gx, 2, none⟩) := hV 3 (Nat.le_of_ble_eq_true rfl)
          have d63 : (vs 4) = .slice A n c := hV 4 (Nat.le_of_ble_eq_true rfl)
          have d64 : (vs 5) = .int .i64 n := hV 5 (Nat.le_of_ble_eq_true rfl)
          have d65 : (vs 6) = .int .i64 ((ta : Int) + (n : Int)) := hV 6 (Nat.le_of_ble_eq_true rfl)
          have d66 : (vs 7) = .bool false := hV 7 (Nat.le_of_ble_eq_true rfl)
          have d58 : (vs 8) = .bool false := hV 8 (Nat.le_of_ble_eq_true rfl)
          clear hV
          simp only [putAll]
          rw [d59, d61, d62, d63, d64, d65, d66, d58]
          clear d59 d61 d62 d63 d64 d65 d66 d58
          generalize vs 1 = v60 at *
          clear vs
          simp only [Act.put, List.setIfInBounds_toArray, List.set_cons_zero, List.set_cons_succ]
          have HK2 := Aside0.mk (HK.out.below hb2)
          have HB2 := Aside0.mk (below_step HB0.out hb2)
          have HQ2 := Aside0.mk (Kd.R_below HQ.out hb2)
          have HX2 := Aside0.mk (blk_below HX.out hb2)
          have z0 := blk_cell HK2.out.1 0
          have z1 := blk_cell HK2.out.1 1
          have y0 := blk_frozen HK2.out.1 0
          have y1 := blk_frozen HK2.out.1 1
          have b0 := blk_cell HX2.out 0
          have b1 := blk_cell HX2.out 1
          have b2 := blk_cell HX2.out 2
          have za0 := blk_cell (blk_alloc HK2.out.1 (.cells #[.bool true, .bool false, .slice A n c] 49)) 0
          have HS2 := Aside0.mk (show gx < V2.heap.size from blk_lt HX2.out)
          obtain ⟨A3, c3, hv60⟩ := d60
          subst hv60
          clear hb2 c0 c1
          go_wp2_with fail
          go_region_law (first | (refine Kd.R_append_rows_step kP (Rr := fun y cs => y = ⟨true, false, q⟩ ∧ cs = [.bool true, .bool false, .slice A n c]) (w0 := V2) base ?aW (.tmp 81) (.tmp 83) 43 49 (.agg #[(.bool false), (.bool false), (.slice none 0 0)]) 32 rfl Try.underlying43 info49' rfl (by decide) (by omega) (.slice Q 0 d) L [⟨true, false, q⟩] (some ⟨V2.heap.size, 0, none⟩) 1 1 (fun b => b ≠ g ∧ OK b) (fun b => (b ≠ g ∧ OK b) ∧ some b ≠ (Value.slice Q 0 d).ownBlock) rfl rfl ?aO ?aR ?aM (fun _ h => h) ?aF ?aB ?aS ?aL ?_; (case aW => rfl); (case aO => (repeat (first | exact Kd.R_below HK2.out.2 (below_alloc (Below.refl _ _) _) | apply Kd.R_drew))); (case aR => exact one_piece (blk_new V2 (.cells #[.bool true, .bool false, .slice A n c] 49))); (case aM => (rintro y cs ⟨rfl, rfl⟩; refine kP_mkM _ _ _ ⟨true, false, q⟩ (Kd.R_mono (ok := fun b => b ≠ g ∧ OK b ∧ some b ≠ (Value.slice Q 0 d).ownBlock) ?_ (fun k hk => ⟨⟨hk.1, hk.2.1⟩, hk.2.2⟩)); (repeat (first | exact Kd.R_below HQ2.out (below_alloc (Below.refl _ _) _) | apply Kd.R_drew)))); (case aF => (intro k hk; have h9 : V2.heap.size + 1 ≤ k := (by simpa using hk); have h8 := HS2.out; have h7 := HGX.out; exact ⟨by omega, HOK.out k (by omega)⟩)); (case aB => (repeat (first | apply below_drew1 | exact (Below.refl base V2).alloc (Nat.le_trans HBG.out (by have := HS2.out; omega)) _))); (case aS => exact Nat.le_trans HBG.out (Nat.le_of_lt (blk_lt (blk_alloc HK2.out.1 (.cells #[.bool true, .bool false, .slice A n c] 49))))); (case aL => (rw [HM.out]; omega)); intro v1 w1 ho hb hg hat; obtain ⟨Q1, d1, hv1⟩ := Kd.R_slice ho; obtain ⟨ll, hll⟩ : ∃ ll, (L ++ [(⟨true, false, q⟩ : Pc)]).length = ll := ⟨_, rfl⟩; rw [hll] at hv1; clear hll; subst hv1; have hw1 := blk_grown hg (blk_alloc HK2.out.1 (.cells #[.bool true, .bool false, .slice A n c] 49)) (fun e => (HK2.out.2.1 _ e.symm).1 rfl); have hwb := blk_grown hg (blk_alloc HX2.out (.cells #[.bool true, .bool false, .slice A n c] 49)) (fun e => HOWN.out e.symm); have z3 := blk_cell hwb 1; have u0 := blk_cell hw1 0; have u1 := blk_cell hw1 1; have w0 := blk_frozen hw1 0; have w1' := blk_frozen hw1 1; have HO1 := Aside0.mk ho; have HG1 := Aside0.mk hg; have HB1 := Aside0.mk hb; have HW1 := Aside0.mk hw1; clear ho hb hg hat hw1 hwb))
          all_goals go_wp2_with fail
          all_goals go_ret3
          all_goals
            refine ⟨.slice none 0 0, rfl, Kd.R_nil _ _ _ _ _, .slice Q1 ll d1, ⟨?_, ?_⟩, ?_, ?_⟩
            · exact blk_set (blk_set HW1.out 0 _) 1 _
            · repeat (first | with_reducible refine Kd.R_far ?_ (fun k h => h.1) _ | with_reducible apply Kd.R_drew | with_reducible exact HO1.out)
            · exact keep_below HB2.out (keep_below (below_alloc (Below.refl _ _) (.cells #[.bool true, .bool false, .slice A n c] 49)) (by
                repeat (first | with_reducible refine KeepBut.set_ ?_ _ _ | with_reducible refine keep_drew ?_ | exact KeepBut.of_grown HG1.out g)))
            · refine (HB2.out.mono (Nat.le_trans HBG.out (Nat.le_of_lt HGL.out))).trans ?_
              repeat (first | with_reducible refine Below.setCell ?_ HBG.out _ | with_reducible refine Below.drew ?_ | with_reducible exact HB1.out)
      ·
        go_enter Try.func17, Try.ntmps17
        go_wp2_with fail
        generalize hV : w.alloc (.cells #[.bool _, .bool _, .slice A n c] 49) = V at *
        obtain ⟨gx, hgx⟩ : ∃ gx, gx = w.heap.size := ⟨_, rfl⟩
        rw [← hgx]
        rw [← hgx] at HX HOWN
        have HGX := Aside0.mk hgx
        have HV := Aside0.mk hV
        have hgl : g < gx := by rw [hgx]; exact HGL.out
        have HGXL := Aside0.mk (blk_lt HX.out)
        clear hgx hV
        try go_frame
        refine region_grown (W := V)
          [fun (w : World) (v : Value) => v = .pointer (some ⟨g, 0, none⟩),
   fun (w : World) (v : Value) => ∃ A3 c3, v = Value.slice A3 ta c3,
   fun (w : World) (v : Value) => v = .int .i64 ta,
   fun (w : World) (v : Value) => v = .pointer (some ⟨gx, 2, none⟩),
   fun (w : World) (v : Value) => v = .slice A n c,
   fun (w : World) (v : Value) => v = .int .i64 n,
   fun (w : World) (v : Value) => v = .int .i64 ((ta : Int) + (n : Int)),
   fun (w : World) (v : Value) => v = .bool false,
   fun (w : World) (v : Value) => v = .bool false]
          (fun j =>  none)
          [(0, some 59), (1, some 60), (2, some 61), (3, some 62), (4, some 63), (5, some 64), (6, some 65), (7, some 66), (8, some 58)]
          []
          (by kernel_rfl) (by kernel_rfl) (by kernel_rfl) (by kernel_rfl) ?r8_2g ?r8_2s ⟨?r8_2o0, ?r8_2o1, ?r8_2o2, ?r8_2o3, ?r8_2o4, ?r8_2o5, ?r8_2o6, ?r8_2o7, ?r8_2o8, trivial⟩ ?r8_2e
        case r8_2g =>
          intro j hj; cases hj
        case r8_2s =>
          refine ⟨(fun w w' v hb h => h), (fun w w' v hb h => h), (fun w w' v hb h => h), (fun w w' v hb h => h), (fun w w' v hb h => h), (fun w w' v hb h => h), (fun w w' v hb h => h), (fun w w' v hb h => h), (fun w w' v hb h => h), trivial⟩
        case r8_2o0 =>
          intro vs w hb hV
          rw [if_pos (by kernel_rfl)]
          generalize hρ : rho _ _ _ vs = ρ
          have e0 : ρ (.tmp 0) = .pointer (some ⟨g, 0, none⟩) := by rw [← hρ]; kernel_rfl
          clear hρ hV
          refine runs_val (v := .pointer (some ⟨g, 0, none⟩)) (w' := w) ?_ ⟨Below.refl _ _, rfl⟩
          go_simp <;> (first | exact IntWalk.u64_in _ (by omega) | exact IntWalk.u32_in _ (by omega) | exact IntWalk.u16_in _ (by omega) | exact IntWalk.u8_in _ (by omega) | exact IntWalk.i64_in _ (by omega) | skip)
        case r8_2o1 =>
          intro vs w hb hV
          rw [if_pos (by kernel_rfl)]
          generalize hρ : rho _ _ _ vs = ρ
          have d59 : (vs 0) = .pointer (some ⟨g, 0, none⟩) := hV 0 (by kernel_rfl)
          have e59 : ρ (.tmp 59) = vs 0 := by rw [← hρ]; kernel_rfl
          rw [d59] at e59; clear d59
          have ef19 : ρ (.func 19) = .func (.func 19) #[] #[] := by rw [← hρ]; rfl
          clear hρ hV
          refine runs_call (f := 19) (args := #[.pointer (some ⟨g, 0, none⟩)]) (w' := w) ?_ ?_
          · go_simp
          · refine (refheld_any g Q _ d L _ _ (blk_below HK.out.1 hb) (Kd.C_below (R_C HK.out.2).2.2 hb) (R_C HK.out.2).2.1 (by rw [HTA.out]; omega)).mono ?_
            rintro e w5 ⟨v5, rfl, hR, hb5⟩
            obtain ⟨A3, c3, e5⟩ := Kd.R_slice hR
            exact ⟨v5, rfl, hb5, A3, c3, by rw [e5, HTA.out]⟩
        case r8_2o2 =>
          intro vs w hb hV
          rw [if_pos (by kernel_rfl)]
          generalize hρ : rho _ _ _ vs = ρ
          have d60 : (fun (w : World) (v : Value) => ∃ A3 c3, v = Value.slice A3 ta c3) w (vs 1) := hV 1 (by kernel_rfl)
          have e60 : ρ (.tmp 60) = vs 1 := by rw [← hρ]; kernel_rfl
          obtain ⟨A3, c3, h60⟩ := d60
          clear hρ hV
          rw [h60] at e60
          refine runs_val (v := .int .i64 ta) (w' := w) ?_ ⟨Below.refl _ _, rfl⟩
          go_simp
        case r8_2o3 =>
          intro vs w hb hV
          rw [if_pos (by kernel_rfl)]
          generalize hρ : rho _ _ _ vs = ρ
          have e3 : ρ (.tmp 3) = .pointer (some ⟨gx, 0, none⟩) := by rw [← hρ]; kernel_rfl
          clear hρ hV
          refine runs_val (v := .pointer (some ⟨gx, 2, none⟩)) (w' := w) ?_ ⟨Below.refl _ _, rfl⟩
          go_simp <;> (first | exact IntWalk.u64_in _ (by omega) | exact IntWalk.u32_in _ (by omega) | exact IntWalk.u16_in _ (by omega) | exact IntWalk.u8_in _ (by omega) | exact IntWalk.i64_in _ (by omega) | skip)
        case r8_2o4 =>
          intro vs w hb hV
          rw [if_pos (by kernel_rfl)]
          generalize hρ : rho _ _ _ vs = ρ
          have d62 : (vs 3) = .pointer (some ⟨gx, 2, none⟩) := hV 3 (by kernel_rfl)
          have e62 : ρ (.tmp 62) = vs 3 := by rw [← hρ]; kernel_rfl
          rw [d62] at e62; clear d62
          clear hρ hV
          have c2 := pw_cell_below hb (blk_cell HX.out 2)
          refine runs_val (v := .slice A n c) (w' := w) ?_ ⟨Below.refl _ _, rfl⟩
          go_simp
        case r8_2o5 =>
          intro vs w hb hV
          rw [if_pos (by kernel_rfl)]
          generalize hρ : rho _ _ _ vs = ρ
          have d63 : (vs 4) = .slice A n c := hV 4 (by kernel_rfl)
          have e63 : ρ (.tmp 63) = vs 4 := by rw [← hρ]; kernel_rfl
          rw [d63] at e63; clear d63
          clear hρ hV
          refine runs_val (v := .int .i64 n) (w' := w) ?_ ⟨Below.refl _ _, rfl⟩
          go_simp <;> (first | exact IntWalk.u64_in _ (by omega) | exact IntWalk.u32_in _ (by omega) | exact IntWalk.u16_in _ (by omega) | exact IntWalk.u8_in _ (by omega) | exact IntWalk.i64_in _ (by omega) | skip)
        case r8_2o6 =>
          intro vs w hb hV
          rw [if_pos (by kernel_rfl)]
          generalize hρ : rho _ _ _ vs = ρ
          have d61 : (vs 2) = .int .i64 ta := hV 2 (by kernel_rfl)
          have e61 : ρ (.tmp 61) = vs 2 := by rw [← hρ]; kernel_rfl
          rw [d61] at e61; clear d61
          have d64 : (vs 5) = .int .i64 n := hV 5 (by kernel_rfl)
          have e64 : ρ (.tmp 64) = vs 5 := by rw [← hρ]; kernel_rfl
          rw [d64] at e64; clear d64
          clear hρ hV
          refine runs_val (v := .int .i64 ((ta : Int) + (n : Int))) (w' := w) ?_ ⟨Below.refl _ _, rfl⟩
          go_simp <;> (first | exact IntWalk.u64_in _ (by omega) | exact IntWalk.u32_in _ (by omega) | exact IntWalk.u16_in _ (by omega) | exact IntWalk.u8_in _ (by omega) | exact IntWalk.i64_in _ (by omega) | skip)
        case r8_2o7 =>
          intro vs w hb hV
          rw [if_pos (by kernel_rfl)]
          generalize hρ : rho _ _ _ vs = ρ
          have d65 : (vs 6) = .int .i64 ((ta : Int) + (n : Int)) := hV 6 (by kernel_rfl)
          have e65 : ρ (.tmp 65) = vs 6 := by rw [← hρ]; kernel_rfl
          rw [d65] at e65; clear d65
          have econ : ∀ v : Value, ρ (.const v) = v := fun v => by rw [← hρ]; rfl
          clear hρ hV
          refine runs_val (v := .bool false) (w' := w) ?_ ⟨Below.refl _ _, rfl⟩
          go_simp <;> (first | exact IntWalk.u64_in _ (by omega) | exact IntWalk.u32_in _ (by omega) | exact IntWalk.u16_in _ (by omega) | exact IntWalk.u8_in _ (by omega) | exact IntWalk.i64_in _ (by omega) | skip)
        case r8_2o8 =>
          intro vs w hb hV
          rw [if_pos (by kernel_rfl)]
          generalize hρ : rho _ _ _ vs = ρ
          have d66 : (vs 7) = .bool false := hV 7 (by kernel_rfl)
          have e66 : ρ (.tmp 66) = vs 7 := by rw [← hρ]; kernel_rfl
          rw [d66] at e66; clear d66
          clear hρ hV
          refine runs_val (v := .bool false) (w' := w) ?_ ⟨Below.refl _ _, rfl⟩
          go_simp <;> (first | exact IntWalk.u64_in _ (by omega) | exact IntWalk.u32_in _ (by omega) | exact IntWalk.u16_in _ (by omega) | exact IntWalk.u8_in _ (by omega) | exact IntWalk.i64_in _ (by omega) | skip)
        case r8_2e =>
          intro vs V2 hb2 hV
          have d59 : (vs 0) = .pointer (some ⟨g, 0, none⟩) := hV 0 (Nat.le_of_ble_eq_true rfl)
          have d60 : (fun (w : World) (v : Value) => ∃ A3 c3, v = Value.slice A3 ta c3) V2 (vs 1) := hV 1 (Nat.le_of_ble_eq_true rfl)
          have d61 : (vs 2) = .int .i64 ta := hV 2 (Nat.le_of_ble_eq_true rfl)
          have d62 : (vs 3) = .pointer (some ⟨gx, 2, none⟩) := hV 3 (Nat.le_of_ble_eq_true rfl)
          have d63 : (vs 4) = .slice A n c := hV 4 (Nat.le_of_ble_eq_true rfl)
          have d64 : (vs 5) = .int .i64 n := hV 5 (Nat.le_of_ble_eq_true rfl)
          have d65 : (vs 6) = .int .i64 ((ta : Int) + (n : Int)) := hV 6 (Nat.le_of_ble_eq_true rfl)
          have d66 : (vs 7) = .bool false := hV 7 (Nat.le_of_ble_eq_true rfl)
          have d58 : (vs 8) = .bool false := hV 8 (Nat.le_of_ble_eq_true rfl)
          clear hV
          simp only [putAll]
          rw [d59, d61, d62, d63, d64, d65, d66, d58]
          clear d59 d61 d62 d63 d64 d65 d66 d58
          generalize vs 1 = v60 at *
          clear vs
          simp only [Act.put, List.setIfInBounds_toArray, List.set_cons_zero, List.set_cons_succ]
          have HK2 := Aside0.mk (HK.out.below hb2)
          have HB2 := Aside0.mk (below_step HB0.out hb2)
          have HQ2 := Aside0.mk (Kd.R_below HQ.out hb2)
          have HX2 := Aside0.mk (blk_below HX.out hb2)
          have z0 := blk_cell HK2.out.1 0
          have z1 := blk_cell HK2.out.1 1
          have y0 := blk_frozen HK2.out.1 0
          have y1 := blk_frozen HK2.out.1 1
          have b0 := blk_cell HX2.out 0
          have b1 := blk_cell HX2.out 1
          have b2 := blk_cell HX2.out 2
          have za0 := blk_cell (blk_alloc HK2.out.1 (.cells #[.bool true, .bool true, .slice A n c] 49)) 0
          have HS2 := Aside0.mk (show gx < V2.heap.size from blk_lt HX2.out)
          obtain ⟨A3, c3, hv60⟩ := d60
          subst hv60
          clear hb2 c0 c1
          go_wp2_with fail
          go_region_law (first | (refine Kd.R_append_rows_step kP (Rr := fun y cs => y = ⟨true, true, q⟩ ∧ cs = [.bool true, .bool true, .slice A n c]) (w0 := V2) base ?aW (.tmp 81) (.tmp 83) 43 49 (.agg #[(.bool false), (.bool false), (.slice none 0 0)]) 32 rfl Try.underlying43 info49' rfl (by decide) (by omega) (.slice Q 0 d) L [⟨true, true, q⟩] (some ⟨V2.heap.size, 0, none⟩) 1 1 (fun b => b ≠ g ∧ OK b) (fun b => (b ≠ g ∧ OK b) ∧ some b ≠ (Value.slice Q 0 d).ownBlock) rfl rfl ?aO ?aR ?aM (fun _ h => h) ?aF ?aB ?aS ?aL ?_; (case aW => rfl); (case aO => (repeat (first | exact Kd.R_below HK2.out.2 (below_alloc (Below.refl _ _) _) | apply Kd.R_drew))); (case aR => exact one_piece (blk_new V2 (.cells #[.bool true, .bool true, .slice A n c] 49))); (case aM => (rintro y cs ⟨rfl, rfl⟩; refine kP_mkM _ _ _ ⟨true, true, q⟩ (Kd.R_mono (ok := fun b => b ≠ g ∧ OK b ∧ some b ≠ (Value.slice Q 0 d).ownBlock) ?_ (fun k hk => ⟨⟨hk.1, hk.2.1⟩, hk.2.2⟩)); (repeat (first | exact Kd.R_below HQ2.out (below_alloc (Below.refl _ _) _) | apply Kd.R_drew)))); (case aF => (intro k hk; have h9 : V2.heap.size + 1 ≤ k := (by simpa using hk); have h8 := HS2.out; have h7 := HGX.out; exact ⟨by omega, HOK.out k (by omega)⟩)); (case aB => (repeat (first | apply below_drew1 | exact (Below.refl base V2).alloc (Nat.le_trans HBG.out (by have := HS2.out; omega)) _))); (case aS => exact Nat.le_trans HBG.out (Nat.le_of_lt (blk_lt (blk_alloc HK2.out.1 (.cells #[.bool true, .bool true, .slice A n c] 49))))); (case aL => (rw [HM.out]; omega)); intro v1 w1 ho hb hg hat; obtain ⟨Q1, d1, hv1⟩ := Kd.R_slice ho; obtain ⟨ll, hll⟩ : ∃ ll, (L ++ [(⟨true, true, q⟩ : Pc)]).length = ll := ⟨_, rfl⟩; rw [hll] at hv1; clear hll; subst hv1; have hw1 := blk_grown hg (blk_alloc HK2.out.1 (.cells #[.bool true, .bool true, .slice A n c] 49)) (fun e => (HK2.out.2.1 _ e.symm).1 rfl); have hwb := blk_grown hg (blk_alloc HX2.out (.cells #[.bool true, .bool true, .slice A n c] 49)) (fun e => HOWN.out e.symm); have z3 := blk_cell hwb 1; have u0 := blk_cell hw1 0; have u1 := blk_cell hw1 1; have w0 := blk_frozen hw1 0; have w1' := blk_frozen hw1 1; have HO1 := Aside0.mk ho; have HG1 := Aside0.mk hg; have HB1 := Aside0.mk hb; have HW1 := Aside0.mk hw1; clear ho hb hg hat hw1 hwb))
          all_goals go_wp2_with fail
          all_goals
            refine (refheld_any g Q1 ll d1 (L ++ [⟨true, true, q⟩]) false _ ?k1 ?k2 ?k3 HLD.out).mono ?_
            case k1 => exact blk_set (blk_set HW1.out 0 _) 1 _
            case k2 =>
              refine (R_C (base := base) (ok := fun b => b ≠ g ∧ OK b) (c := d1) (e := 49) ?_).2.2
              repeat (first | with_reducible refine Kd.R_far ?_ (fun k h => h.1) _ | with_reducible apply Kd.R_drew | with_reducible exact HO1.out)
            case k3 => exact (R_C HO1.out).2.1
            rintro e w7 ⟨vo, rfl, hR, hb7⟩
            have HK7 := Aside0.mk (blk_below (blk_set (blk_set HW1.out 0 (.slice Q1 ll d1)) 1 (.bool false)) hb7)
            have t0 := blk_cell HK7.out 0
            have t1 := blk_frozen HK7.out 0
            obtain ⟨Qo, dO, hvo⟩ := Kd.R_slice hR
            obtain ⟨lo, hlo⟩ : ∃ lo, (allD (L ++ [⟨true, true, q⟩])).length = lo := ⟨_, rfl⟩
            rw [hlo] at hvo
            clear hlo
            subst hvo
            have HR7 := Aside0.mk hR
            have HB7 := Aside0.mk hb7
            clear hR hb7
            go_wp2_with fail
            go_ret3
            refine ⟨.slice Qo lo dO, rfl, ?_, .slice none 0 0, ⟨?_, Kd.R_nil _ _ _ _ _⟩, ?_, ?_⟩
            · have hg6 := blk_lt (blk_set (blk_set HW1.out 0 (.slice Q1 ll d1)) 1 (.bool false))
              have r1 := Kd.R_mono (Kd.R_bound HR7.out) (ok' := fun k => g < k) (fun k hk => Nat.lt_of_lt_of_le hg6 hk.2.1)
              have r2 := Kd.R_far (p := ⟨g, 0, none⟩) r1 (fun k hk => Nat.ne_of_gt hk) (.slice none 0 0)
              exact Kd.R_mono (Kd.R_lower r2 (Nat.le_trans HBG.out (Nat.le_of_lt hg6))) (fun _ _ => trivial)
            · exact blk_set HK7.out 0 _
            · refine keep_below HB2.out (keep_below (below_alloc (Below.refl _ _) (.cells #[.bool true, .bool true, .slice A n c] 49)) (KeepBut.set_ (keep_then ?_ HB7.out) _ _))
              repeat (first | with_reducible refine KeepBut.set_ ?_ _ _ | with_reducible refine keep_drew ?_ | exact KeepBut.of_grown HG1.out g)
            · have hg6 := blk_lt (blk_set (blk_set HW1.out 0 (.slice Q1 ll d1)) 1 (.bool false))
              refine (HB2.out.mono (Nat.le_trans HBG.out (Nat.le_of_lt HGL.out))).trans (Below.setCell (Below.trans ?_ (HB7.out.mono (Nat.le_trans HBG.out (Nat.le_of_lt hg6)))) HBG.out _)
              repeat (first | with_reducible refine Below.setCell ?_ HBG.out _ | with_reducible refine Below.drew ?_ | with_reducible exact HB1.out)
      ·
        go_enter Try.func17, Try.ntmps17
        go_wp2_with fail
        generalize hV : w.alloc (.cells #[.bool _, .bool _, .slice A n c] 49) = V at *
        obtain ⟨gx, hgx⟩ : ∃ gx, gx = w.heap.size := ⟨_, rfl⟩
        rw [← hgx]
        rw [← hgx] at HX HOWN
        have HGX := Aside0.mk hgx
        have HV := Aside0.mk hV
        have hgl : g < gx := by rw [hgx]; exact HGL.out
        have HGXL := Aside0.mk (blk_lt HX.out)
        clear hgx hV
        try go_frame
        refine region_grown (W := V)
          [fun (w : World) (v : Value) => v = .pointer (some ⟨g, 0, none⟩),
   fun (w : World) (v : Value) => ∃ A3 c3, v = Value.slice A3 ta c3,
   fun (w : World) (v : Value) => v = .int .i64 ta,
   fun (w : World) (v : Value) => v = .pointer (some ⟨gx, 2, none⟩),
   fun (w : World) (v : Value) => v = .slice A n c,
   fun (w : World) (v : Value) => v = .int .i64 n,
   fun (w : World) (v : Value) => v = .int .i64 ((ta : Int) + (n : Int)),
   fun (w : World) (v : Value) => v = .bool false,
   fun (w : World) (v : Value) => v = .bool false]
          (fun j =>  none)
          [(0, some 59), (1, some 60), (2, some 61), (3, some 62), (4, some 63), (5, some 64), (6, some 65), (7, some 66), (8, some 58)]
          []
          (by kernel_rfl) (by kernel_rfl) (by kernel_rfl) (by kernel_rfl) ?r8_3g ?r8_3s ⟨?r8_3o0, ?r8_3o1, ?r8_3o2, ?r8_3o3, ?r8_3o4, ?r8_3o5, ?r8_3o6, ?r8_3o7, ?r8_3o8, trivial⟩ ?r8_3e
        case r8_3g =>
          intro j hj; cases hj
        case r8_3s =>
          refine ⟨(fun w w' v hb h => h), (fun w w' v hb h => h), (fun w w' v hb h => h), (fun w w' v hb h => h), (fun w w' v hb h => h), (fun w w' v hb h => h), (fun w w' v hb h => h), (fun w w' v hb h => h), (fun w w' v hb h => h), trivial⟩
        case r8_3o0 =>
          intro vs w hb hV
          rw [if_pos (by kernel_rfl)]
          generalize hρ : rho _ _ _ vs = ρ
          have e0 : ρ (.tmp 0) = .pointer (some ⟨g, 0, none⟩) := by rw [← hρ]; kernel_rfl
          clear hρ hV
          refine runs_val (v := .pointer (some ⟨g, 0, none⟩)) (w' := w) ?_ ⟨Below.refl _ _, rfl⟩
          go_simp <;> (first | exact IntWalk.u64_in _ (by omega) | exact IntWalk.u32_in _ (by omega) | exact IntWalk.u16_in _ (by omega) | exact IntWalk.u8_in _ (by omega) | exact IntWalk.i64_in _ (by omega) | skip)
        case r8_3o1 =>
          intro vs w hb hV
          rw [if_pos (by kernel_rfl)]
          generalize hρ : rho _ _ _ vs = ρ
          have d59 : (vs 0) = .pointer (some ⟨g, 0, none⟩) := hV 0 (by kernel_rfl)
          have e59 : ρ (.tmp 59) = vs 0 := by rw [← hρ]; kernel_rfl
          rw [d59] at e59; clear d59
          have ef19 : ρ (.func 19) = .func (.func 19) #[] #[] := by rw [← hρ]; rfl
          clear hρ hV
          refine runs_call (f := 19) (args := #[.pointer (some ⟨g, 0, none⟩)]) (w' := w) ?_ ?_
          · go_simp
          · refine (refheld_any g Q _ d L _ _ (blk_below HK.out.1 hb) (Kd.C_below (R_C HK.out.2).2.2 hb) (R_C HK.out.2).2.1 (by rw [HTA.out]; omega)).mono ?_
            rintro e w5 ⟨v5, rfl, hR, hb5⟩
            obtain ⟨A3, c3, e5⟩ := Kd.R_slice hR
            exact ⟨v5, rfl, hb5, A3, c3, by rw [e5, HTA.out]⟩
        case r8_3o2 =>
          intro vs w hb hV
          rw [if_pos (by kernel_rfl)]
          generalize hρ : rho _ _ _ vs = ρ
          have d60 : (fun (w : World) (v : Value) => ∃ A3 c3, v = Value.slice A3 ta c3) w (vs 1) := hV 1 (by kernel_rfl)
          have e60 : ρ (.tmp 60) = vs 1 := by rw [← hρ]; kernel_rfl
          obtain ⟨A3, c3, h60⟩ := d60
          clear hρ hV
          rw [h60] at e60
          refine runs_val (v := .int .i64 ta) (w' := w) ?_ ⟨Below.refl _ _, rfl⟩
          go_simp
        case r8_3o3 =>
          intro vs w hb hV
          rw [if_pos (by kernel_rfl)]
          generalize hρ : rho _ _ _ vs = ρ
          have e3 : ρ (.tmp 3) = .pointer (some ⟨gx, 0, none⟩) := by rw [← hρ]; kernel_rfl
          clear hρ hV
          refine runs_val (v := .pointer (some ⟨gx, 2, none⟩)) (w' := w) ?_ ⟨Below.refl _ _, rfl⟩
          go_simp <;> (first | exact IntWalk.u64_in _ (by omega) | exact IntWalk.u32_in _ (by omega) | exact IntWalk.u16_in _ (by omega) | exact IntWalk.u8_in _ (by omega) | exact IntWalk.i64_in _ (by omega) | skip)
        case r8_3o4 =>
          intro vs w hb hV
          rw [if_pos (by kernel_rfl)]
          generalize hρ : rho _ _ _ vs = ρ
          have d62 : (vs 3) = .pointer (some ⟨gx, 2, none⟩) := hV 3 (by kernel_rfl)
          have e62 : ρ (.tmp 62) = vs 3 := by rw [← hρ]; kernel_rfl
          rw [d62] at e62; clear d62
          clear hρ hV
          have c2 := pw_cell_below hb (blk_cell HX.out 2)
          refine runs_val (v := .slice A n c) (w' := w) ?_ ⟨Below.refl _ _, rfl⟩
          go_simp
        case r8_3o5 =>
          intro vs w hb hV
          rw [if_pos (by kernel_rfl)]
          generalize hρ : rho _ _ _ vs = ρ
          have d63 : (vs 4) = .slice A n c := hV 4 (by kernel_rfl)
          have e63 : ρ (.tmp 63) = vs 4 := by rw [← hρ]; kernel_rfl
          rw [d63] at e63; clear d63
          clear hρ hV
          refine runs_val (v := .int .i64 n) (w' := w) ?_ ⟨Below.refl _ _, rfl⟩
          go_simp <;> (first | exact IntWalk.u64_in _ (by omega) | exact IntWalk.u32_in _ (by omega) | exact IntWalk.u16_in _ (by omega) | exact IntWalk.u8_in _ (by omega) | exact IntWalk.i64_in _ (by omega) | skip)
        case r8_3o6 =>
          intro vs w hb hV
          rw [if_pos (by kernel_rfl)]
          generalize hρ : rho _ _ _ vs = ρ
          have d61 : (vs 2) = .int .i64 ta := hV 2 (by kernel_rfl)
          have e61 : ρ (.tmp 61) = vs 2 := by rw [← hρ]; kernel_rfl
          rw [d61] at e61; clear d61
          have d64 : (vs 5) = .int .i64 n := hV 5 (by kernel_rfl)
          have e64 : ρ (.tmp 64) = vs 5 := by rw [← hρ]; kernel_rfl
          rw [d64] at e64; clear d64
          clear hρ hV
          refine runs_val (v := .int .i64 ((ta : Int) + (n : Int))) (w' := w) ?_ ⟨Below.refl _ _, rfl⟩
          go_simp <;> (first | exact IntWalk.u64_in _ (by omega) | exact IntWalk.u32_in _ (by omega) | exact IntWalk.u16_in _ (by omega) | exact IntWalk.u8_in _ (by omega) | exact IntWalk.i64_in _ (by omega) | skip)
        case r8_3o7 =>
          intro vs w hb hV
          rw [if_pos (by kernel_rfl)]
          generalize hρ : rho _ _ _ vs = ρ
          have d65 : (vs 6) = .int .i64 ((ta : Int) + (n : Int)) := hV 6 (by kernel_rfl)
          have e65 : ρ (.tmp 65) = vs 6 := by rw [← hρ]; kernel_rfl
          rw [d65] at e65; clear d65
          have econ : ∀ v : Value, ρ (.const v) = v := fun v => by rw [← hρ]; rfl
          clear hρ hV
          refine runs_val (v := .bool false) (w' := w) ?_ ⟨Below.refl _ _, rfl⟩
          go_simp <;> (first | exact IntWalk.u64_in _ (by omega) | exact IntWalk.u32_in _ (by omega) | exact IntWalk.u16_in _ (by omega) | exact IntWalk.u8_in _ (by omega) | exact IntWalk.i64_in _ (by omega) | skip)
        case r8_3o8 =>
          intro vs w hb hV
          rw [if_pos (by kernel_rfl)]
          generalize hρ : rho _ _ _ vs = ρ
          have d66 : (vs 7) = .bool false := hV 7 (by kernel_rfl)
          have e66 : ρ (.tmp 66) = vs 7 := by rw [← hρ]; kernel_rfl
          rw [d66] at e66; clear d66
          clear hρ hV
          refine runs_val (v := .bool false) (w' := w) ?_ ⟨Below.refl _ _, rfl⟩
          go_simp <;> (first | exact IntWalk.u64_in _ (by omega) | exact IntWalk.u32_in _ (by omega) | exact IntWalk.u16_in _ (by omega) | exact IntWalk.u8_in _ (by omega) | exact IntWalk.i64_in _ (by omega) | skip)
        case r8_3e =>
          intro vs V2 hb2 hV
          have d59 : (vs 0) = .pointer (some ⟨g, 0, none⟩) := hV 0 (Nat.le_of_ble_eq_true rfl)
          have d60 : (fun (w : World) (v : Value) => ∃ A3 c3, v = Value.slice A3 ta c3) V2 (vs 1) := hV 1 (Nat.le_of_ble_eq_true rfl)
          have d61 : (vs 2) = .int .i64 ta := hV 2 (Nat.le_of_ble_eq_true rfl)
          have d62 : (vs 3) = .pointer (some ⟨gx, 2, none⟩) := hV 3 (Nat.le_of_ble_eq_true rfl)
          have d63 : (vs 4) = .slice A n c := hV 4 (Nat.le_of_ble_eq_true rfl)
          have d64 : (vs 5) = .int .i64 n := hV 5 (Nat.le_of_ble_eq_true rfl)
          have d65 : (vs 6) = .int .i64 ((ta : Int) + (n : Int)) := hV 6 (Nat.le_of_ble_eq_true rfl)
          have d66 : (vs 7) = .bool false := hV 7 (Nat.le_of_ble_eq_true rfl)
          have d58 : (vs 8) = .bool false := hV 8 (Nat.le_of_ble_eq_true rfl)
          clear hV
          simp only [putAll]
          rw [d59, d61, d62, d63, d64, d65, d66, d58]
          clear d59 d61 d62 d63 d64 d65 d66 d58
          generalize vs 1 = v60 at *
          clear vs
          simp only [Act.put, List.setIfInBounds_toArray, List.set_cons_zero, List.set_cons_succ]
          have HK2 := Aside0.mk (HK.out.below hb2)
          have HB2 := Aside0.mk (below_step HB0.out hb2)
          have HQ2 := Aside0.mk (Kd.R_below HQ.out hb2)
          have HX2 := Aside0.mk (blk_below HX.out hb2)
          have z0 := blk_cell HK2.out.1 0
          have z1 := blk_cell HK2.out.1 1
          have y0 := blk_frozen HK2.out.1 0
          have y1 := blk_frozen HK2.out.1 1
          have b0 := blk_cell HX2.out 0
          have b1 := blk_cell HX2.out 1
          have b2 := blk_cell HX2.out 2
          have za0 := blk_cell (blk_alloc HK2.out.1 (.cells #[.bool true, .bool true, .slice A n c] 49)) 0
          have HS2 := Aside0.mk (show gx < V2.heap.size from blk_lt HX2.out)
          obtain ⟨A3, c3, hv60⟩ := d60
          subst hv60
          clear hb2 c0 c1
          go_wp2_with fail
          go_region_law (first | (refine Kd.R_append_rows_step kP (Rr := fun y cs => y = ⟨true, true, q⟩ ∧ cs = [.bool true, .bool true, .slice A n c]) (w0 := V2) base ?aW (.tmp 81) (.tmp 83) 43 49 (.agg #[(.bool false), (.bool false), (.slice none 0 0)]) 32 rfl Try.underlying43 info49' rfl (by decide) (by omega) (.slice Q 0 d) L [⟨true, true, q⟩] (some ⟨V2.heap.size, 0, none⟩) 1 1 (fun b => b ≠ g ∧ OK b) (fun b => (b ≠ g ∧ OK b) ∧ some b ≠ (Value.slice Q 0 d).ownBlock) rfl rfl ?aO ?aR ?aM (fun _ h => h) ?aF ?aB ?aS ?aL ?_; (case aW => rfl); (case aO => (repeat (first | exact Kd.R_below HK2.out.2 (below_alloc (Below.refl _ _) _) | apply Kd.R_drew))); (case aR => exact one_piece (blk_new V2 (.cells #[.bool true, .bool true, .slice A n c] 49))); (case aM => (rintro y cs ⟨rfl, rfl⟩; refine kP_mkM _ _ _ ⟨true, true, q⟩ (Kd.R_mono (ok := fun b => b ≠ g ∧ OK b ∧ some b ≠ (Value.slice Q 0 d).ownBlock) ?_ (fun k hk => ⟨⟨hk.1, hk.2.1⟩, hk.2.2⟩)); (repeat (first | exact Kd.R_below HQ2.out (below_alloc (Below.refl _ _) _) | apply Kd.R_drew)))); (case aF => (intro k hk; have h9 : V2.heap.size + 1 ≤ k := (by simpa using hk); have h8 := HS2.out; have h7 := HGX.out; exact ⟨by omega, HOK.out k (by omega)⟩)); (case aB => (repeat (first | apply below_drew1 | exact (Below.refl base V2).alloc (Nat.le_trans HBG.out (by have := HS2.out; omega)) _))); (case aS => exact Nat.le_trans HBG.out (Nat.le_of_lt (blk_lt (blk_alloc HK2.out.1 (.cells #[.bool true, .bool true, .slice A n c] 49))))); (case aL => (rw [HM.out]; omega)); intro v1 w1 ho hb hg hat; obtain ⟨Q1, d1, hv1⟩ := Kd.R_slice ho; obtain ⟨ll, hll⟩ : ∃ ll, (L ++ [(⟨true, true, q⟩ : Pc)]).length = ll := ⟨_, rfl⟩; rw [hll] at hv1; clear hll; subst hv1; have hw1 := blk_grown hg (blk_alloc HK2.out.1 (.cells #[.bool true, .bool true, .slice A n c] 49)) (fun e => (HK2.out.2.1 _ e.symm).1 rfl); have hwb := blk_grown hg (blk_alloc HX2.out (.cells #[.bool true, .bool true, .slice A n c] 49)) (fun e => HOWN.out e.symm); have z3 := blk_cell hwb 1; have u0 := blk_cell hw1 0; have u1 := blk_cell hw1 1; have w0 := blk_frozen hw1 0; have w1' := blk_frozen hw1 1; have HO1 := Aside0.mk ho; have HG1 := Aside0.mk hg; have HB1 := Aside0.mk hb; have HW1 := Aside0.mk hw1; clear ho hb hg hat hw1 hwb))
          all_goals go_wp2_with fail
          all_goals
            refine (refheld_any g Q1 ll d1 (L ++ [⟨true, true, q⟩]) false _ ?k1 ?k2 ?k3 HLD.out).mono ?_
            case k1 => exact blk_set (blk_set HW1.out 0 _) 1 _
            case k2 =>
              refine (R_C (base := base) (ok := fun b => b ≠ g ∧ OK b) (c := d1) (e := 49) ?_).2.2
              repeat (first | with_reducible refine Kd.R_far ?_ (fun k h => h.1) _ | with_reducible apply Kd.R_drew | with_reducible exact HO1.out)
            case k3 => exact (R_C HO1.out).2.1
            rintro e w7 ⟨vo, rfl, hR, hb7⟩
            have HK7 := Aside0.mk (blk_below (blk_set (blk_set HW1.out 0 (.slice Q1 ll d1)) 1 (.bool false)) hb7)
            have t0 := blk_cell HK7.out 0
            have t1 := blk_frozen HK7.out 0
            obtain ⟨Qo, dO, hvo⟩ := Kd.R_slice hR
            obtain ⟨lo, hlo⟩ : ∃ lo, (allD (L ++ [⟨true, true, q⟩])).length = lo := ⟨_, rfl⟩
            rw [hlo] at hvo
            clear hlo
            subst hvo
            have HR7 := Aside0.mk hR
            have HB7 := Aside0.mk hb7
            clear hR hb7
            go_wp2_with fail
            go_ret3
            refine ⟨.slice Qo lo dO, rfl, ?_, .slice none 0 0, ⟨?_, Kd.R_nil _ _ _ _ _⟩, ?_, ?_⟩
            · have hg6 := blk_lt (blk_set (blk_set HW1.out 0 (.slice Q1 ll d1)) 1 (.bool false))
              have r1 := Kd.R_mono (Kd.R_bound HR7.out) (ok' := fun k => g < k) (fun k hk => Nat.lt_of_lt_of_le hg6 hk.2.1)
              have r2 := Kd.R_far (p := ⟨g, 0, none⟩) r1 (fun k hk => Nat.ne_of_gt hk) (.slice none 0 0)
              exact Kd.R_mono (Kd.R_lower r2 (Nat.le_trans HBG.out (Nat.le_of_lt hg6))) (fun _ _ => trivial)
            · exact blk_set HK7.out 0 _
            · refine keep_below HB2.out (keep_below (below_alloc (Below.refl _ _) (.cells #[.bool true, .bool true, .slice A n c] 49)) (KeepBut.set_ (keep_then ?_ HB7.out) _ _))
              repeat (first | with_reducible refine KeepBut.set_ ?_ _ _ | with_reducible refine keep_drew ?_ | exact KeepBut.of_grown HG1.out g)
            · have hg6 := blk_lt (blk_set (blk_set HW1.out 0 (.slice Q1 ll d1)) 1 (.bool false))
              refine (HB2.out.mono (Nat.le_trans HBG.out (Nat.le_of_lt HGL.out))).trans (Below.setCell (Below.trans ?_ (HB7.out.mono (Nat.le_trans HBG.out (Nat.le_of_lt hg6)))) HBG.out _)
              repeat (first | with_reducible refine Below.setCell ?_ HBG.out _ | with_reducible refine Below.drew ?_ | with_reducible exact HB1.out)
    ·
      rcases h3 with ⟨rfl, h3⟩ | ⟨rfl, h3⟩ | ⟨rfl, h3⟩
      ·
        go_enter Try.func17, Try.ntmps17
        go_wp2_with fail
        generalize hV : w.alloc (.cells #[.bool _, .bool _, .slice A n c] 49) = V at *
        obtain ⟨gx, hgx⟩ : ∃ gx, gx = w.heap.size := ⟨_, rfl⟩
        rw [← hgx]
        rw [← hgx] at HX HOWN
        have HGX := Aside0.mk hgx
        have HV := Aside0.mk hV
        have hgl : g < gx := by rw [hgx]; exact HGL.out
        have HGXL := Aside0.mk (blk_lt HX.out)
        clear hgx hV
        try go_frame
        refine region_grown (W := V)
          [fun (w : World) (v : Value) => v = .pointer (some ⟨g, 0, none⟩),
   fun (w : World) (v : Value) => ∃ A3 c3, v = Value.slice A3 ta c3,
   fun (w : World) (v : Value) => v = .int .i64 ta,
   fun (w : World) (v : Value) => v = .pointer (some ⟨gx, 2, none⟩),
   fun (w : World) (v : Value) => v = .slice A n c,
   fun (w : World) (v : Value) => v = .int .i64 n,
   fun (w : World) (v : Value) => v = .int .i64 ((ta : Int) + (n : Int)),
   fun (w : World) (v : Value) => v = .bool false,
   fun (w : World) (v : Value) => v = .bool false]
          (fun j =>  none)
          [(0, some 59), (1, some 60), (2, some 61), (3, some 62), (4, some 63), (5, some 64), (6, some 65), (7, some 66), (8, some 58)]
          []
          (by kernel_rfl) (by kernel_rfl) (by kernel_rfl) (by kernel_rfl) ?r8_4g ?r8_4s ⟨?r8_4o0, ?r8_4o1, ?r8_4o2, ?r8_4o3, ?r8_4o4, ?r8_4o5, ?r8_4o6, ?r8_4o7, ?r8_4o8, trivial⟩ ?r8_4e
        case r8_4g =>
          intro j hj; cases hj
        case r8_4s =>
          refine ⟨(fun w w' v hb h => h), (fun w w' v hb h => h), (fun w w' v hb h => h), (fun w w' v hb h => h), (fun w w' v hb h => h), (fun w w' v hb h => h), (fun w w' v hb h => h), (fun w w' v hb h => h), (fun w w' v hb h => h), trivial⟩
        case r8_4o0 =>
          intro vs w hb hV
          rw [if_pos (by kernel_rfl)]
          generalize hρ : rho _ _ _ vs = ρ
          have e0 : ρ (.tmp 0) = .pointer (some ⟨g, 0, none⟩) := by rw [← hρ]; kernel_rfl
          clear hρ hV
          refine runs_val (v := .pointer (some ⟨g, 0, none⟩)) (w' := w) ?_ ⟨Below.refl _ _, rfl⟩
          go_simp <;> (first | exact IntWalk.u64_in _ (by omega) | exact IntWalk.u32_in _ (by omega) | exact IntWalk.u16_in _ (by omega) | exact IntWalk.u8_in _ (by omega) | exact IntWalk.i64_in _ (by omega) | skip)
        case r8_4o1 =>
          intro vs w hb hV
          rw [if_pos (by kernel_rfl)]
          generalize hρ : rho _ _ _ vs = ρ
          have d59 : (vs 0) = .pointer (some ⟨g, 0, none⟩) := hV 0 (by kernel_rfl)
          have e59 : ρ (.tmp 59) = vs 0 := by rw [← hρ]; kernel_rfl
          rw [d59] at e59; clear d59
          have ef19 : ρ (.func 19) = .func (.func 19) #[] #[] := by rw [← hρ]; rfl
          clear hρ hV
          refine runs_call (f := 19) (args := #[.pointer (some ⟨g, 0, none⟩)]) (w' := w) ?_ ?_
          · go_simp
          · refine (refheld_any g Q _ d L _ _ (blk_below HK.out.1 hb) (Kd.C_below (R_C HK.out.2).2.2 hb) (R_C HK.out.2).2.1 (by rw [HTA.out]; omega)).mono ?_
            rintro e w5 ⟨v5, rfl, hR, hb5⟩
            obtain ⟨A3, c3, e5⟩ := Kd.R_slice hR
            exact ⟨v5, rfl, hb5, A3, c3, by rw [e5, HTA.out]⟩
        case r8_4o2 =>
          intro vs w hb hV
          rw [if_pos (by kernel_rfl)]
          generalize hρ : rho _ _ _ vs = ρ
          have d60 : (fun (w : World) (v : Value) => ∃ A3 c3, v = Value.slice A3 ta c3) w (vs 1) := hV 1 (by kernel_rfl)
          have e60 : ρ (.tmp 60) = vs 1 := by rw [← hρ]; kernel_rfl
          obtain ⟨A3, c3, h60⟩ := d60
          clear hρ hV
          rw [h60] at e60
          refine runs_val (v := .int .i64 ta) (w' := w) ?_ ⟨Below.refl _ _, rfl⟩
          go_simp
        case r8_4o3 =>
          intro vs w hb hV
          rw [if_pos (by kernel_rfl)]
          generalize hρ : rho _ _ _ vs = ρ
          have e3 : ρ (.tmp 3) = .pointer (some ⟨gx, 0, none⟩) := by rw [← hρ]; kernel_rfl
          clear hρ hV
          refine runs_val (v := .pointer (some ⟨gx, 2, none⟩)) (w' := w) ?_ ⟨Below.refl _ _, rfl⟩
          go_simp <;> (first | exact IntWalk.u64_in _ (by omega) | exact IntWalk.u32_in _ (by omega) | exact IntWalk.u16_in _ (by omega) | exact IntWalk.u8_in _ (by omega) | exact IntWalk.i64_in _ (by omega) | skip)
        case r8_4o4 =>
          intro vs w hb hV
          rw [if_pos (by kernel_rfl)]
          generalize hρ : rho _ _ _ vs = ρ
          have d62 : (vs 3) = .pointer (some ⟨gx, 2, none⟩) := hV 3 (by kernel_rfl)
          have e62 : ρ (.tmp 62) = vs 3 := by rw [← hρ]; kernel_rfl
          rw [d62] at e62; clear d62
          clear hρ hV
          have c2 := pw_cell_below hb (blk_cell HX.out 2)
          refine runs_val (v := .slice A n c) (w' := w) ?_ ⟨Below.refl _ _, rfl⟩
          go_simp
        case r8_4o5 =>
          intro vs w hb hV
          rw [if_pos (by kernel_rfl)]
          generalize hρ : rho _ _ _ vs = ρ
          have d63 : (vs 4) = .slice A n c := hV 4 (by kernel_rfl)
          have e63 : ρ (.tmp 63) = vs 4 := by rw [← hρ]; kernel_rfl
          rw [d63] at e63; clear d63
          clear hρ hV
          refine runs_val (v := .int .i64 n) (w' := w) ?_ ⟨Below.refl _ _, rfl⟩
          go_simp <;> (first | exact IntWalk.u64_in _ (by omega) | exact IntWalk.u32_in _ (by omega) | exact IntWalk.u16_in _ (by omega) | exact IntWalk.u8_in _ (by omega) | exact IntWalk.i64_in _ (by omega) | skip)
        case r8_4o6 =>
          intro vs w hb hV
          rw [if_pos (by kernel_rfl)]
          generalize hρ : rho _ _ _ vs = ρ
          have d61 : (vs 2) = .int .i64 ta := hV 2 (by kernel_rfl)
          have e61 : ρ (.tmp 61) = vs 2 := by rw [← hρ]; kernel_rfl
          rw [d61] at e61; clear d61
          have d64 : (vs 5) = .int .i64 n := hV 5 (by kernel_rfl)
          have e64 : ρ (.tmp 64) = vs 5 := by rw [← hρ]; kernel_rfl
          rw [d64] at e64; clear d64
          clear hρ hV
          refine runs_val (v := .int .i64 ((ta : Int) + (n : Int))) (w' := w) ?_ ⟨Below.refl _ _, rfl⟩
          go_simp <;> (first | exact IntWalk.u64_in _ (by omega) | exact IntWalk.u32_in _ (by omega) | exact IntWalk.u16_in _ (by omega) | exact IntWalk.u8_in _ (by omega) | exact IntWalk.i64_in _ (by omega) | skip)
        case r8_4o7 =>
          intro vs w hb hV
          rw [if_pos (by kernel_rfl)]
          generalize hρ : rho _ _ _ vs = ρ
          have d65 : (vs 6) = .int .i64 ((ta : Int) + (n : Int)) := hV 6 (by kernel_rfl)
          have e65 : ρ (.tmp 65) = vs 6 := by rw [← hρ]; kernel_rfl
          rw [d65] at e65; clear d65
          have econ : ∀ v : Value, ρ (.const v) = v := fun v => by rw [← hρ]; rfl
          clear hρ hV
          refine runs_val (v := .bool false) (w' := w) ?_ ⟨Below.refl _ _, rfl⟩
          go_simp <;> (first | exact IntWalk.u64_in _ (by omega) | exact IntWalk.u32_in _ (by omega) | exact IntWalk.u16_in _ (by omega) | exact IntWalk.u8_in _ (by omega) | exact IntWalk.i64_in _ (by omega) | skip)
        case r8_4o8 =>
          intro vs w hb hV
          rw [if_pos (by kernel_rfl)]
          generalize hρ : rho _ _ _ vs = ρ
          have d66 : (vs 7) = .bool false := hV 7 (by kernel_rfl)
          have e66 : ρ (.tmp 66) = vs 7 := by rw [← hρ]; kernel_rfl
          rw [d66] at e66; clear d66
          clear hρ hV
          refine runs_val (v := .bool false) (w' := w) ?_ ⟨Below.refl _ _, rfl⟩
          go_simp <;> (first | exact IntWalk.u64_in _ (by omega) | exact IntWalk.u32_in _ (by omega) | exact IntWalk.u16_in _ (by omega) | exact IntWalk.u8_in _ (by omega) | exact IntWalk.i64_in _ (by omega) | skip)
        case r8_4e =>
          intro vs V2 hb2 hV
          have d59 : (vs 0) = .pointer (some ⟨g, 0, none⟩) := hV 0 (Nat.le_of_ble_eq_true rfl)
          have d60 : (fun (w : World) (v : Value) => ∃ A3 c3, v = Value.slice A3 ta c3) V2 (vs 1) := hV 1 (Nat.le_of_ble_eq_true rfl)
          have d61 : (vs 2) = .int .i64 ta := hV 2 (Nat.le_of_ble_eq_true rfl)
          have d62 : (vs 3) = .pointer (some ⟨gx, 2, none⟩) := hV 3 (Nat.le_of_ble_eq_true rfl)
          have d63 : (vs 4) = .slice A n c := hV 4 (Nat.le_of_ble_eq_true rfl)
          have d64 : (vs 5) = .int .i64 n := hV 5 (Nat.le_of_ble_eq_true rfl)
          have d65 : (vs 6) = .int .i64 ((ta : Int) + (n : Int)) := hV 6 (Nat.le_of_ble_eq_true rfl)
          have d66 : (vs 7) = .bool false := hV 7 (Nat.le_of_ble_eq_true rfl)
          have d58 : (vs 8) = .bool false := hV 8 (Nat.le_of_ble_eq_true rfl)
          clear hV
          simp only [putAll]
          rw [d59, d61, d62, d63, d64, d65, d66, d58]
          clear d59 d61 d62 d63 d64 d65 d66 d58
          generalize vs 1 = v60 at *
          clear vs
          simp only [Act.put, List.setIfInBounds_toArray, List.set_cons_zero, List.set_cons_succ]
          have HK2 := Aside0.mk (HK.out.below hb2)
          have HB2 := Aside0.mk (below_step HB0.out hb2)
          have HQ2 := Aside0.mk (Kd.R_below HQ.out hb2)
          have HX2 := Aside0.mk (blk_below HX.out hb2)
          have z0 := blk_cell HK2.out.1 0
          have z1 := blk_cell HK2.out.1 1
          have y0 := blk_frozen HK2.out.1 0
          have y1 := blk_frozen HK2.out.1 1
          have b0 := blk_cell HX2.out 0
          have b1 := blk_cell HX2.out 1
          have b2 := blk_cell HX2.out 2
          have za0 := blk_cell (blk_alloc HK2.out.1 (.cells #[.bool true, .bool false, .slice A n c] 49)) 0
          have HS2 := Aside0.mk (show gx < V2.heap.size from blk_lt HX2.out)
          obtain ⟨A3, c3, hv60⟩ := d60
          subst hv60
          clear hb2 c0 c1
          go_wp2_with fail
          go_region_law (first | (refine Kd.R_append_rows_step kP (Rr := fun y cs => y = ⟨true, false, q⟩ ∧ cs = [.bool true, .bool false, .slice A n c]) (w0 := V2) base ?aW (.tmp 81) (.tmp 83) 43 49 (.agg #[(.bool false), (.bool false), (.slice none 0 0)]) 32 rfl Try.underlying43 info49' rfl (by decide) (by omega) (.slice Q 0 d) L [⟨true, false, q⟩] (some ⟨V2.heap.size, 0, none⟩) 1 1 (fun b => b ≠ g ∧ OK b) (fun b => (b ≠ g ∧ OK b) ∧ some b ≠ (Value.slice Q 0 d).ownBlock) rfl rfl ?aO ?aR ?aM (fun _ h => h) ?aF ?aB ?aS ?aL ?_; (case aW => rfl); (case aO => (repeat (first | exact Kd.R_below HK2.out.2 (below_alloc (Below.refl _ _) _) | apply Kd.R_drew))); (case aR => exact one_piece (blk_new V2 (.cells #[.bool true, .bool false, .slice A n c] 49))); (case aM => (rintro y cs ⟨rfl, rfl⟩; refine kP_mkM _ _ _ ⟨true, false, q⟩ (Kd.R_mono (ok := fun b => b ≠ g ∧ OK b ∧ some b ≠ (Value.slice Q 0 d).ownBlock) ?_ (fun k hk => ⟨⟨hk.1, hk.2.1⟩, hk.2.2⟩)); (repeat (first | exact Kd.R_below HQ2.out (below_alloc (Below.refl _ _) _) | apply Kd.R_drew)))); (case aF => (intro k hk; have h9 : V2.heap.size + 1 ≤ k := (by simpa using hk); have h8 := HS2.out; have h7 := HGX.out; exact ⟨by omega, HOK.out k (by omega)⟩)); (case aB => (repeat (first | apply below_drew1 | exact (Below.refl base V2).alloc (Nat.le_trans HBG.out (by have := HS2.out; omega)) _))); (case aS => exact Nat.le_trans HBG.out (Nat.le_of_lt (blk_lt (blk_alloc HK2.out.1 (.cells #[.bool true, .bool false, .slice A n c] 49))))); (case aL => (rw [HM.out]; omega)); intro v1 w1 ho hb hg hat; obtain ⟨Q1, d1, hv1⟩ := Kd.R_slice ho; obtain ⟨ll, hll⟩ : ∃ ll, (L ++ [(⟨true, false, q⟩ : Pc)]).length = ll := ⟨_, rfl⟩; rw [hll] at hv1; clear hll; subst hv1; have hw1 := blk_grown hg (blk_alloc HK2.out.1 (.cells #[.bool true, .bool false, .slice A n c] 49)) (fun e => (HK2.out.2.1 _ e.symm).1 rfl); have hwb := blk_grown hg (blk_alloc HX2.out (.cells #[.bool true, .bool false, .slice A n c] 49)) (fun e => HOWN.out e.symm); have z3 := blk_cell hwb 1; have u0 := blk_cell hw1 0; have u1 := blk_cell hw1 1; have w0 := blk_frozen hw1 0; have w1' := blk_frozen hw1 1; have HO1 := Aside0.mk ho; have HG1 := Aside0.mk hg; have HB1 := Aside0.mk hb; have HW1 := Aside0.mk hw1; clear ho hb hg hat hw1 hwb))
          all_goals go_wp2_with fail
          all_goals go_ret3
          all_goals
            refine ⟨.slice none 0 0, rfl, Kd.R_nil _ _ _ _ _, .slice Q1 ll d1, ⟨?_, ?_⟩, ?_, ?_⟩
            · exact blk_set (blk_set HW1.out 0 _) 1 _
            · repeat (first | with_reducible refine Kd.R_far ?_ (fun k h => h.1) _ | with_reducible apply Kd.R_drew | with_reducible exact HO1.out)
            · exact keep_below HB2.out (keep_below (below_alloc (Below.refl _ _) (.cells #[.bool true, .bool false, .slice A n c] 49)) (by
                repeat (first | with_reducible refine KeepBut.set_ ?_ _ _ | with_reducible refine keep_drew ?_ | exact KeepBut.of_grown HG1.out g)))
            · refine (HB2.out.mono (Nat.le_trans HBG.out (Nat.le_of_lt HGL.out))).trans ?_
              repeat (first | with_reducible refine Below.setCell ?_ HBG.out _ | with_reducible refine Below.drew ?_ | with_reducible exact HB1.out)
      ·
        go_enter Try.func17, Try.ntmps17
        go_wp2_with fail
        generalize hV : w.alloc (.cells #[.bool _, .bool _, .slice A n c] 49) = V at *
        obtain ⟨gx, hgx⟩ : ∃ gx, gx = w.heap.size := ⟨_, rfl⟩
        rw [← hgx]
        rw [← hgx] at HX HOWN
        have HGX := Aside0.mk hgx
        have HV := Aside0.mk hV
        have hgl : g < gx := by rw [hgx]; exact HGL.out
        have HGXL := Aside0.mk (blk_lt HX.out)
        clear hgx hV
        try go_frame
        refine region_grown (W := V)
          [fun (w : World) (v : Value) => v = .pointer (some ⟨g, 0, none⟩),
   fun (w : World) (v : Value) => ∃ A3 c3, v = Value.slice A3 ta c3,
   fun (w : World) (v : Value) => v = .int .i64 ta,
   fun (w : World) (v : Value) => v = .pointer (some ⟨gx, 2, none⟩),
   fun (w : World) (v : Value) => v = .slice A n c,
   fun (w : World) (v : Value) => v = .int .i64 n,
   fun (w : World) (v : Value) => v = .int .i64 ((ta : Int) + (n : Int)),
   fun (w : World) (v : Value) => v = .bool false,
   fun (w : World) (v : Value) => v = .bool false]
          (fun j =>  none)
          [(0, some 59), (1, some 60), (2, some 61), (3, some 62), (4, some 63), (5, some 64), (6, some 65), (7, some 66), (8, some 58)]
          []
          (by kernel_rfl) (by kernel_rfl) (by kernel_rfl) (by kernel_rfl) ?r8_5g ?r8_5s ⟨?r8_5o0, ?r8_5o1, ?r8_5o2, ?r8_5o3, ?r8_5o4, ?r8_5o5, ?r8_5o6, ?r8_5o7, ?r8_5o8, trivial⟩ ?r8_5e
        case r8_5g =>
          intro j hj; cases hj
        case r8_5s =>
          refine ⟨(fun w w' v hb h => h), (fun w w' v hb h => h), (fun w w' v hb h => h), (fun w w' v hb h => h), (fun w w' v hb h => h), (fun w w' v hb h => h), (fun w w' v hb h => h), (fun w w' v hb h => h), (fun w w' v hb h => h), trivial⟩
        case r8_5o0 =>
          intro vs w hb hV
          rw [if_pos (by kernel_rfl)]
          generalize hρ : rho _ _ _ vs = ρ
          have e0 : ρ (.tmp 0) = .pointer (some ⟨g, 0, none⟩) := by rw [← hρ]; kernel_rfl
          clear hρ hV
          refine runs_val (v := .pointer (some ⟨g, 0, none⟩)) (w' := w) ?_ ⟨Below.refl _ _, rfl⟩
          go_simp <;> (first | exact IntWalk.u64_in _ (by omega) | exact IntWalk.u32_in _ (by omega) | exact IntWalk.u16_in _ (by omega) | exact IntWalk.u8_in _ (by omega) | exact IntWalk.i64_in _ (by omega) | skip)
        case r8_5o1 =>
          intro vs w hb hV
          rw [if_pos (by kernel_rfl)]
          generalize hρ : rho _ _ _ vs = ρ
          have d59 : (vs 0) = .pointer (some ⟨g, 0, none⟩) := hV 0 (by kernel_rfl)
          have e59 : ρ (.tmp 59) = vs 0 := by rw [← hρ]; kernel_rfl
          rw [d59] at e59; clear d59
          have ef19 : ρ (.func 19) = .func (.func 19) #[] #[] := by rw [← hρ]; rfl
          clear hρ hV
          refine runs_call (f := 19) (args := #[.pointer (some ⟨g, 0, none⟩)]) (w' := w) ?_ ?_
          · go_simp
          · refine (refheld_any g Q _ d L _ _ (blk_below HK.out.1 hb) (Kd.C_below (R_C HK.out.2).2.2 hb) (R_C HK.out.2).2.1 (by rw [HTA.out]; omega)).mono ?_
            rintro e w5 ⟨v5, rfl, hR, hb5⟩
            obtain ⟨A3, c3, e5⟩ := Kd.R_slice hR
            exact ⟨v5, rfl, hb5, A3, c3, by rw [e5, HTA.out]⟩
        case r8_5o2 =>
          intro vs w hb hV
          rw [if_pos (by kernel_rfl)]
          generalize hρ : rho _ _ _ vs = ρ
          have d60 : (fun (w : World) (v : Value) => ∃ A3 c3, v = Value.slice A3 ta c3) w (vs 1) := hV 1 (by kernel_rfl)
          have e60 : ρ (.tmp 60) = vs 1 := by rw [← hρ]; kernel_rfl
          obtain ⟨A3, c3, h60⟩ := d60
          clear hρ hV
          rw [h60] at e60
          refine runs_val (v := .int .i64 ta) (w' := w) ?_ ⟨Below.refl _ _, rfl⟩
          go_simp
        case r8_5o3 =>
          intro vs w hb hV
          rw [if_pos (by kernel_rfl)]
          generalize hρ : rho _ _ _ vs = ρ
          have e3 : ρ (.tmp 3) = .pointer (some ⟨gx, 0, none⟩) := by rw [← hρ]; kernel_rfl
          clear hρ hV
          refine runs_val (v := .pointer (some ⟨gx, 2, none⟩)) (w' := w) ?_ ⟨Below.refl _ _, rfl⟩
          go_simp <;> (first | exact IntWalk.u64_in _ (by omega) | exact IntWalk.u32_in _ (by omega) | exact IntWalk.u16_in _ (by omega) | exact IntWalk.u8_in _ (by omega) | exact IntWalk.i64_in _ (by omega) | skip)
        case r8_5o4 =>
          intro vs w hb hV
          rw [if_pos (by kernel_rfl)]
          generalize hρ : rho _ _ _ vs = ρ
          have d62 : (vs 3) = .pointer (some ⟨gx, 2, none⟩) := hV 3 (by kernel_rfl)
          have e62 : ρ (.tmp 62) = vs 3 := by rw [← hρ]; kernel_rfl
          rw [d62] at e62; clear d62
          clear hρ hV
          have c2 := pw_cell_below hb (blk_cell HX.out 2)
          refine runs_val (v := .slice A n c) (w' := w) ?_ ⟨Below.refl _ _, rfl⟩
          go_simp
        case r8_5o5 =>
          intro vs w hb hV
          rw [if_pos (by kernel_rfl)]
          generalize hρ : rho _ _ _ vs = ρ
          have d63 : (vs 4) = .slice A n c := hV 4 (by kernel_rfl)
          have e63 : ρ (.tmp 63) = vs 4 := by rw [← hρ]; kernel_rfl
          rw [d63] at e63; clear d63
          clear hρ hV
          refine runs_val (v := .int .i64 n) (w' := w) ?_ ⟨Below.refl _ _, rfl⟩
          go_simp <;> (first | exact IntWalk.u64_in _ (by omega) | exact IntWalk.u32_in _ (by omega) | exact IntWalk.u16_in _ (by omega) | exact IntWalk.u8_in _ (by omega) | exact IntWalk.i64_in _ (by omega) | skip)
        case r8_5o6 =>
          intro vs w hb hV
          rw [if_pos (by kernel_rfl)]
          generalize hρ : rho _ _ _ vs = ρ
          have d61 : (vs 2) = .int .i64 ta := hV 2 (by kernel_rfl)
          have e61 : ρ (.tmp 61) = vs 2 := by rw [← hρ]; kernel_rfl
          rw [d61] at e61; clear d61
          have d64 : (vs 5) = .int .i64 n := hV 5 (by kernel_rfl)
          have e64 : ρ (.tmp 64) = vs 5 := by rw [← hρ]; kernel_rfl
          rw [d64] at e64; clear d64
          clear hρ hV
          refine runs_val (v := .int .i64 ((ta : Int) + (n : Int))) (w' := w) ?_ ⟨Below.refl _ _, rfl⟩
          go_simp <;> (first | exact IntWalk.u64_in _ (by omega) | exact IntWalk.u32_in _ (by omega) | exact IntWalk.u16_in _ (by omega) | exact IntWalk.u8_in _ (by omega) | exact IntWalk.i64_in _ (by omega) | skip)
        case r8_5o7 =>
          intro vs w hb hV
          rw [if_pos (by kernel_rfl)]
          generalize hρ : rho _ _ _ vs = ρ
          have d65 : (vs 6) = .int .i64 ((ta : Int) + (n : Int)) := hV 6 (by kernel_rfl)
          have e65 : ρ (.tmp 65) = vs 6 := by rw [← hρ]; kernel_rfl
          rw [d65] at e65; clear d65
          have econ : ∀ v : Value, ρ (.const v) = v := fun v => by rw [← hρ]; rfl
          clear hρ hV
          refine runs_val (v := .bool false) (w' := w) ?_ ⟨Below.refl _ _, rfl⟩
          go_simp <;> (first | exact IntWalk.u64_in _ (by omega) | exact IntWalk.u32_in _ (by omega) | exact IntWalk.u16_in _ (by omega) | exact IntWalk.u8_in _ (by omega) | exact IntWalk.i64_in _ (by omega) | skip)
        case r8_5o8 =>
          intro vs w hb hV
          rw [if_pos (by kernel_rfl)]
          generalize hρ : rho _ _ _ vs = ρ
          have d66 : (vs 7) = .bool false := hV 7 (by kernel_rfl)
          have e66 : ρ (.tmp 66) = vs 7 := by rw [← hρ]; kernel_rfl
          rw [d66] at e66; clear d66
          clear hρ hV
          refine runs_val (v := .bool false) (w' := w) ?_ ⟨Below.refl _ _, rfl⟩
          go_simp <;> (first | exact IntWalk.u64_in _ (by omega) | exact IntWalk.u32_in _ (by omega) | exact IntWalk.u16_in _ (by omega) | exact IntWalk.u8_in _ (by omega) | exact IntWalk.i64_in _ (by omega) | skip)
        case r8_5e =>
          intro vs V2 hb2 hV
          have d59 : (vs 0) = .pointer (some ⟨g, 0, none⟩) := hV 0 (Nat.le_of_ble_eq_true rfl)
          have d60 : (fun (w : World) (v : Value) => ∃ A3 c3, v = Value.slice A3 ta c3) V2 (vs 1) := hV 1 (Nat.le_of_ble_eq_true rfl)
          have d61 : (vs 2) = .int .i64 ta := hV 2 (Nat.le_of_ble_eq_true rfl)
          have d62 : (vs 3) = .pointer (some ⟨gx, 2, none⟩) := hV 3 (Nat.le_of_ble_eq_true rfl)
          have d63 : (vs 4) = .slice A n c := hV 4 (Nat.le_of_ble_eq_true rfl)
          have d64 : (vs 5) = .int .i64 n := hV 5 (Nat.le_of_ble_eq_true rfl)
          have d65 : (vs 6) = .int .i64 ((ta : Int) + (n : Int)) := hV 6 (Nat.le_of_ble_eq_true rfl)
          have d66 : (vs 7) = .bool false := hV 7 (Nat.le_of_ble_eq_true rfl)
          have d58 : (vs 8) = .bool false := hV 8 (Nat.le_of_ble_eq_true rfl)
          clear hV
          simp only [putAll]
          rw [d59, d61, d62, d63, d64, d65, d66, d58]
          clear d59 d61 d62 d63 d64 d65 d66 d58
          generalize vs 1 = v60 at *
          clear vs
          simp only [Act.put, List.setIfInBounds_toArray, List.set_cons_zero, List.set_cons_succ]
          have HK2 := Aside0.mk (HK.out.below hb2)
          have HB2 := Aside0.mk (below_step HB0.out hb2)
          have HQ2 := Aside0.mk (Kd.R_below HQ.out hb2)
          have HX2 := Aside0.mk (blk_below HX.out hb2)
          have z0 := blk_cell HK2.out.1 0
          have z1 := blk_cell HK2.out.1 1
          have y0 := blk_frozen HK2.out.1 0
          have y1 := blk_frozen HK2.out.1 1
          have b0 := blk_cell HX2.out 0
          have b1 := blk_cell HX2.out 1
          have b2 := blk_cell HX2.out 2
          have za0 := blk_cell (blk_alloc HK2.out.1 (.cells #[.bool true, .bool true, .slice A n c] 49)) 0
          have HS2 := Aside0.mk (show gx < V2.heap.size from blk_lt HX2.out)
          obtain ⟨A3, c3, hv60⟩ := d60
          subst hv60
          clear hb2 c0 c1
          go_wp2_with fail
          go_region_law (first | (refine Kd.R_append_rows_step kP (Rr := fun y cs => y = ⟨true, true, q⟩ ∧ cs = [.bool true, .bool true, .slice A n c]) (w0 := V2) base ?aW (.tmp 81) (.tmp 83) 43 49 (.agg #[(.bool false), (.bool false), (.slice none 0 0)]) 32 rfl Try.underlying43 info49' rfl (by decide) (by omega) (.slice Q 0 d) L [⟨true, true, q⟩] (some ⟨V2.heap.size, 0, none⟩) 1 1 (fun b => b ≠ g ∧ OK b) (fun b => (b ≠ g ∧ OK b) ∧ some b ≠ (Value.slice Q 0 d).ownBlock) rfl rfl ?aO ?aR ?aM (fun _ h => h) ?aF ?aB ?aS ?aL ?_; (case aW => rfl); (case aO => (repeat (first | exact Kd.R_below HK2.out.2 (below_alloc (Below.refl _ _) _) | apply Kd.R_drew))); (case aR => exact one_piece (blk_new V2 (.cells #[.bool true, .bool true, .slice A n c] 49))); (case aM => (rintro y cs ⟨rfl, rfl⟩; refine kP_mkM _ _ _ ⟨true, true, q⟩ (Kd.R_mono (ok := fun b => b ≠ g ∧ OK b ∧ some b ≠ (Value.slice Q 0 d).ownBlock) ?_ (fun k hk => ⟨⟨hk.1, hk.2.1⟩, hk.2.2⟩)); (repeat (first | exact Kd.R_below HQ2.out (below_alloc (Below.refl _ _) _) | apply Kd.R_drew)))); (case aF => (intro k hk; have h9 : V2.heap.size + 1 ≤ k := (by simpa using hk); have h8 := HS2.out; have h7 := HGX.out; exact ⟨by omega, HOK.out k (by omega)⟩)); (case aB => (repeat (first | apply below_drew1 | exact (Below.refl base V2).alloc (Nat.le_trans HBG.out (by have := HS2.out; omega)) _))); (case aS => exact Nat.le_trans HBG.out (Nat.le_of_lt (blk_lt (blk_alloc HK2.out.1 (.cells #[.bool true, .bool true, .slice A n c] 49))))); (case aL => (rw [HM.out]; omega)); intro v1 w1 ho hb hg hat; obtain ⟨Q1, d1, hv1⟩ := Kd.R_slice ho; obtain ⟨ll, hll⟩ : ∃ ll, (L ++ [(⟨true, true, q⟩ : Pc)]).length = ll := ⟨_, rfl⟩; rw [hll] at hv1; clear hll; subst hv1; have hw1 := blk_grown hg (blk_alloc HK2.out.1 (.cells #[.bool true, .bool true, .slice A n c] 49)) (fun e => (HK2.out.2.1 _ e.symm).1 rfl); have hwb := blk_grown hg (blk_alloc HX2.out (.cells #[.bool true, .bool true, .slice A n c] 49)) (fun e => HOWN.out e.symm); have z3 := blk_cell hwb 1; have u0 := blk_cell hw1 0; have u1 := blk_cell hw1 1; have w0 := blk_frozen hw1 0; have w1' := blk_frozen hw1 1; have HO1 := Aside0.mk ho; have HG1 := Aside0.mk hg; have HB1 := Aside0.mk hb; have HW1 := Aside0.mk hw1; clear ho hb hg hat hw1 hwb))
          all_goals go_wp2_with fail
          all_goals
            refine (refheld_any g Q1 ll d1 (L ++ [⟨true, true, q⟩]) false _ ?k1 ?k2 ?k3 HLD.out).mono ?_
            case k1 => exact blk_set (blk_set HW1.out 0 _) 1 _
            case k2 =>
              refine (R_C (base := base) (ok := fun b => b ≠ g ∧ OK b) (c := d1) (e := 49) ?_).2.2
              repeat (first | with_reducible refine Kd.R_far ?_ (fun k h => h.1) _ | with_reducible apply Kd.R_drew | with_reducible exact HO1.out)
            case k3 => exact (R_C HO1.out).2.1
            rintro e w7 ⟨vo, rfl, hR, hb7⟩
            have HK7 := Aside0.mk (blk_below (blk_set (blk_set HW1.out 0 (.slice Q1 ll d1)) 1 (.bool false)) hb7)
            have t0 := blk_cell HK7.out 0
            have t1 := blk_frozen HK7.out 0
            obtain ⟨Qo, dO, hvo⟩ := Kd.R_slice hR
            obtain ⟨lo, hlo⟩ : ∃ lo, (allD (L ++ [⟨true, true, q⟩])).length = lo := ⟨_, rfl⟩
            rw [hlo] at hvo
            clear hlo
            subst hvo
            have HR7 := Aside0.mk hR
            have HB7 := Aside0.mk hb7
            clear hR hb7
            go_wp2_with fail
            go_ret3
            refine ⟨.slice Qo lo dO, rfl, ?_, .slice none 0 0, ⟨?_, Kd.R_nil _ _ _ _ _⟩, ?_, ?_⟩
            · have hg6 := blk_lt (blk_set (blk_set HW1.out 0 (.slice Q1 ll d1)) 1 (.bool false))
              have r1 := Kd.R_mono (Kd.R_bound HR7.out) (ok' := fun k => g < k) (fun k hk => Nat.lt_of_lt_of_le hg6 hk.2.1)
              have r2 := Kd.R_far (p := ⟨g, 0, none⟩) r1 (fun k hk => Nat.ne_of_gt hk) (.slice none 0 0)
              exact Kd.R_mono (Kd.R_lower r2 (Nat.le_trans HBG.out (Nat.le_of_lt hg6))) (fun _ _ => trivial)
            · exact blk_set HK7.out 0 _
            · refine keep_below HB2.out (keep_below (below_alloc (Below.refl _ _) (.cells #[.bool true, .bool true, .slice A n c] 49)) (KeepBut.set_ (keep_then ?_ HB7.out) _ _))
              repeat (first | with_reducible refine KeepBut.set_ ?_ _ _ | with_reducible refine keep_drew ?_ | exact KeepBut.of_grown HG1.out g)
            · have hg6 := blk_lt (blk_set (blk_set HW1.out 0 (.slice Q1 ll d1)) 1 (.bool false))
              refine (HB2.out.mono (Nat.le_trans HBG.out (Nat.le_of_lt HGL.out))).trans (Below.setCell (Below.trans ?_ (HB7.out.mono (Nat.le_trans HBG.out (Nat.le_of_lt hg6)))) HBG.out _)
              repeat (first | with_reducible refine Below.setCell ?_ HBG.out _ | with_reducible refine Below.drew ?_ | with_reducible exact HB1.out)
      ·
        go_enter Try.func17, Try.ntmps17
        go_wp2_with fail
        generalize hV : w.alloc (.cells #[.bool _, .bool _, .slice A n c] 49) = V at *
        obtain ⟨gx, hgx⟩ : ∃ gx, gx = w.heap.size := ⟨_, rfl⟩
        rw [← hgx]
        rw [← hgx] at HX HOWN
        have HGX := Aside0.mk hgx
        have HV := Aside0.mk hV
        have hgl : g < gx := by rw [hgx]; exact HGL.out
        have HGXL := Aside0.mk (blk_lt HX.out)
        clear hgx hV
        try go_frame
        refine region_grown (W := V)
          [fun (w : World) (v : Value) => v = .pointer (some ⟨g, 0, none⟩),
   fun (w : World) (v : Value) => ∃ A3 c3, v = Value.slice A3 ta c3,
   fun (w : World) (v : Value) => v = .int .i64 ta,
   fun (w : World) (v : Value) => v = .pointer (some ⟨gx, 2, none⟩),
   fun (w : World) (v : Value) => v = .slice A n c,
   fun (w : World) (v : Value) => v = .int .i64 n,
   fun (w : World) (v : Value) => v = .int .i64 ((ta : Int) + (n : Int)),
   fun (w : World) (v : Value) => v = .bool false,
   fun (w : World) (v : Value) => v = .bool false]
          (fun j =>  none)
          [(0, some 59), (1, some 60), (2, some 61), (3, some 62), (4, some 63), (5, some 64), (6, some 65), (7, some 66), (8, some 58)]
          []
          (by kernel_rfl) (by kernel_rfl) (by kernel_rfl) (by kernel_rfl) ?r8_6g ?r8_6s ⟨?r8_6o0, ?r8_6o1, ?r8_6o2, ?r8_6o3, ?r8_6o4, ?r8_6o5, ?r8_6o6, ?r8_6o7, ?r8_6o8, trivial⟩ ?r8_6e
        case r8_6g =>
          intro j hj; cases hj
        case r8_6s =>
          refine ⟨(fun w w' v hb h => h), (fun w w' v hb h => h), (fun w w' v hb h => h), (fun w w' v hb h => h), (fun w w' v hb h => h), (fun w w' v hb h => h), (fun w w' v hb h => h), (fun w w' v hb h => h), (fun w w' v hb h => h), trivial⟩
        case r8_6o0 =>
          intro vs w hb hV
          rw [if_pos (by kernel_rfl)]
          generalize hρ : rho _ _ _ vs = ρ
          have e0 : ρ (.tmp 0) = .pointer (some ⟨g, 0, none⟩) := by rw [← hρ]; kernel_rfl
          clear hρ hV
          refine runs_val (v := .pointer (some ⟨g, 0, none⟩)) (w' := w) ?_ ⟨Below.refl _ _, rfl⟩
          go_simp <;> (first | exact IntWalk.u64_in _ (by omega) | exact IntWalk.u32_in _ (by omega) | exact IntWalk.u16_in _ (by omega) | exact IntWalk.u8_in _ (by omega) | exact IntWalk.i64_in _ (by omega) | skip)
        case r8_6o1 =>
          intro vs w hb hV
          rw [if_pos (by kernel_rfl)]
          generalize hρ : rho _ _ _ vs = ρ
          have d59 : (vs 0) = .pointer (some ⟨g, 0, none⟩) := hV 0 (by kernel_rfl)
          have e59 : ρ (.tmp 59) = vs 0 := by rw [← hρ]; kernel_rfl
          rw [d59] at e59; clear d59
          have ef19 : ρ (.func 19) = .func (.func 19) #[] #[] := by rw [← hρ]; rfl
          clear hρ hV
          refine runs_call (f := 19) (args := #[.pointer (some ⟨g, 0, none⟩)]) (w' := w) ?_ ?_
          · go_simp
          · refine (refheld_any g Q _ d L _ _ (blk_below HK.out.1 hb) (Kd.C_below (R_C HK.out.2).2.2 hb) (R_C HK.out.2).2.1 (by rw [HTA.out]; omega)).mono ?_
            rintro e w5 ⟨v5, rfl, hR, hb5⟩
            obtain ⟨A3, c3, e5⟩ := Kd.R_slice hR
            exact ⟨v5, rfl, hb5, A3, c3, by rw [e5, HTA.out]⟩
        case r8_6o2 =>
          intro vs w hb hV
          rw [if_pos (by kernel_rfl)]
          generalize hρ : rho _ _ _ vs = ρ
          have d60 : (fun (w : World) (v : Value) => ∃ A3 c3, v = Value.slice A3 ta c3) w (vs 1) := hV 1 (by kernel_rfl)
          have e60 : ρ (.tmp 60) = vs 1 := by rw [← hρ]; kernel_rfl
          obtain ⟨A3, c3, h60⟩ := d60
          clear hρ hV
          rw [h60] at e60
          refine runs_val (v := .int .i64 ta) (w' := w) ?_ ⟨Below.refl _ _, rfl⟩
          go_simp
        case r8_6o3 =>
          intro vs w hb hV
          rw [if_pos (by kernel_rfl)]
          generalize hρ : rho _ _ _ vs = ρ
          have e3 : ρ (.tmp 3) = .pointer (some ⟨gx, 0, none⟩) := by rw [← hρ]; kernel_rfl
          clear hρ hV
          refine runs_val (v := .pointer (some ⟨gx, 2, none⟩)) (w' := w) ?_ ⟨Below.refl _ _, rfl⟩
          go_simp <;> (first | exact IntWalk.u64_in _ (by omega) | exact IntWalk.u32_in _ (by omega) | exact IntWalk.u16_in _ (by omega) | exact IntWalk.u8_in _ (by omega) | exact IntWalk.i64_in _ (by omega) | skip)
        case r8_6o4 =>
          intro vs w hb hV
          rw [if_pos (by kernel_rfl)]
          generalize hρ : rho _ _ _ vs = ρ
          have d62 : (vs 3) = .pointer (some ⟨gx, 2, none⟩) := hV 3 (by kernel_rfl)
          have e62 : ρ (.tmp 62) = vs 3 := by rw [← hρ]; kernel_rfl
          rw [d62] at e62; clear d62
          clear hρ hV
          have c2 := pw_cell_below hb (blk_cell HX.out 2)
          refine runs_val (v := .slice A n c) (w' := w) ?_ ⟨Below.refl _ _, rfl⟩
          go_simp
        case r8_6o5 =>
          intro vs w hb hV
          rw [if_pos (by kernel_rfl)]
          generalize hρ : rho _ _ _ vs = ρ
          have d63 : (vs 4) = .slice A n c := hV 4 (by kernel_rfl)
          have e63 : ρ (.tmp 63) = vs 4 := by rw [← hρ]; kernel_rfl
          rw [d63] at e63; clear d63
          clear hρ hV
          refine runs_val (v := .int .i64 n) (w' := w) ?_ ⟨Below.refl _ _, rfl⟩
          go_simp <;> (first | exact IntWalk.u64_in _ (by omega) | exact IntWalk.u32_in _ (by omega) | exact IntWalk.u16_in _ (by omega) | exact IntWalk.u8_in _ (by omega) | exact IntWalk.i64_in _ (by omega) | skip)
        case r8_6o6 =>
          intro vs w hb hV
          rw [if_pos (by kernel_rfl)]
          generalize hρ : rho _ _ _ vs = ρ
          have d61 : (vs 2) = .int .i64 ta := hV 2 (by kernel_rfl)
          have e61 : ρ (.tmp 61) = vs 2 := by rw [← hρ]; kernel_rfl
          rw [d61] at e61; clear d61
          have d64 : (vs 5) = .int .i64 n := hV 5 (by kernel_rfl)
          have e64 : ρ (.tmp 64) = vs 5 := by rw [← hρ]; kernel_rfl
          rw [d64] at e64; clear d64
          clear hρ hV
          refine runs_val (v := .int .i64 ((ta : Int) + (n : Int))) (w' := w) ?_ ⟨Below.refl _ _, rfl⟩
          go_simp <;> (first | exact IntWalk.u64_in _ (by omega) | exact IntWalk.u32_in _ (by omega) | exact IntWalk.u16_in _ (by omega) | exact IntWalk.u8_in _ (by omega) | exact IntWalk.i64_in _ (by omega) | skip)
        case r8_6o7 =>
          intro vs w hb hV
          rw [if_pos (by kernel_rfl)]
          generalize hρ : rho _ _ _ vs = ρ
          have d65 : (vs 6) = .int .i64 ((ta : Int) + (n : Int)) := hV 6 (by kernel_rfl)
          have e65 : ρ (.tmp 65) = vs 6 := by rw [← hρ]; kernel_rfl
          rw [d65] at e65; clear d65
          have econ : ∀ v : Value, ρ (.const v) = v := fun v => by rw [← hρ]; rfl
          clear hρ hV
          refine runs_val (v := .bool false) (w' := w) ?_ ⟨Below.refl _ _, rfl⟩
          go_simp <;> (first | exact IntWalk.u64_in _ (by omega) | exact IntWalk.u32_in _ (by omega) | exact IntWalk.u16_in _ (by omega) | exact IntWalk.u8_in _ (by omega) | exact IntWalk.i64_in _ (by omega) | skip)
        case r8_6o8 =>
          intro vs w hb hV
          rw [if_pos (by kernel_rfl)]
          generalize hρ : rho _ _ _ vs = ρ
          have d66 : (vs 7) = .bool false := hV 7 (by kernel_rfl)
          have e66 : ρ (.tmp 66) = vs 7 := by rw [← hρ]; kernel_rfl
          rw [d66] at e66; clear d66
          clear hρ hV
          refine runs_val (v := .bool false) (w' := w) ?_ ⟨Below.refl _ _, rfl⟩
          go_simp <;> (first | exact IntWalk.u64_in _ (by omega) | exact IntWalk.u32_in _ (by omega) | exact IntWalk.u16_in _ (by omega) | exact IntWalk.u8_in _ (by omega) | exact IntWalk.i64_in _ (by omega) | skip)
        case r8_6e =>
          intro vs V2 hb2 hV
          have d59 : (vs 0) = .pointer (some ⟨g, 0, none⟩) := hV 0 (Nat.le_of_ble_eq_true rfl)
          have d60 : (fun (w : World) (v : Value) => ∃ A3 c3, v = Value.slice A3 ta c3) V2 (vs 1) := hV 1 (Nat.le_of_ble_eq_true rfl)
          have d61 : (vs 2) = .int .i64 ta := hV 2 (Nat.le_of_ble_eq_true rfl)
          have d62 : (vs 3) = .pointer (some ⟨gx, 2, none⟩) := hV 3 (Nat.le_of_ble_eq_true rfl)
          have d63 : (vs 4) = .slice A n c := hV 4 (Nat.le_of_ble_eq_true rfl)
          have d64 : (vs 5) = .int .i64 n := hV 5 (Nat.le_of_ble_eq_true rfl)
          have d65 : (vs 6) = .int .i64 ((ta : Int) + (n : Int)) := hV 6 (Nat.le_of_ble_eq_true rfl)
          have d66 : (vs 7) = .bool false := hV 7 (Nat.le_of_ble_eq_true rfl)
          have d58 : (vs 8) = .bool false := hV 8 (Nat.le_of_ble_eq_true rfl)
          clear hV
          simp only [putAll]
          rw [d59, d61, d62, d63, d64, d65, d66, d58]
          clear d59 d61 d62 d63 d64 d65 d66 d58
          generalize vs 1 = v60 at *
          clear vs
          simp only [Act.put, List.setIfInBounds_toArray, List.set_cons_zero, List.set_cons_succ]
          have HK2 := Aside0.mk (HK.out.below hb2)
          have HB2 := Aside0.mk (below_step HB0.out hb2)
          have HQ2 := Aside0.mk (Kd.R_below HQ.out hb2)
          have HX2 := Aside0.mk (blk_below HX.out hb2)
          have z0 := blk_cell HK2.out.1 0
          have z1 := blk_cell HK2.out.1 1
          have y0 := blk_frozen HK2.out.1 0
          have y1 := blk_frozen HK2.out.1 1
          have b0 := blk_cell HX2.out 0
          have b1 := blk_cell HX2.out 1
          have b2 := blk_cell HX2.out 2
          have za0 := blk_cell (blk_alloc HK2.out.1 (.cells #[.bool true, .bool true, .slice A n c] 49)) 0
          have HS2 := Aside0.mk (show gx < V2.heap.size from blk_lt HX2.out)
          obtain ⟨A3, c3, hv60⟩ := d60
          subst hv60
          clear hb2 c0 c1
          go_wp2_with fail
          go_region_law (first | (refine Kd.R_append_rows_step kP (Rr := fun y cs => y = ⟨true, true, q⟩ ∧ cs = [.bool true, .bool true, .slice A n c]) (w0 := V2) base ?aW (.tmp 81) (.tmp 83) 43 49 (.agg #[(.bool false), (.bool false), (.slice none 0 0)]) 32 rfl Try.underlying43 info49' rfl (by decide) (by omega) (.slice Q 0 d) L [⟨true, true, q⟩] (some ⟨V2.heap.size, 0, none⟩) 1 1 (fun b => b ≠ g ∧ OK b) (fun b => (b ≠ g ∧ OK b) ∧ some b ≠ (Value.slice Q 0 d).ownBlock) rfl rfl ?aO ?aR ?aM (fun _ h => h) ?aF ?aB ?aS ?aL ?_; (case aW => rfl); (case aO => (repeat (first | exact Kd.R_below HK2.out.2 (below_alloc (Below.refl _ _) _) | apply Kd.R_drew))); (case aR => exact one_piece (blk_new V2 (.cells #[.bool true, .bool true, .slice A n c] 49))); (case aM => (rintro y cs ⟨rfl, rfl⟩; refine kP_mkM _ _ _ ⟨true, true, q⟩ (Kd.R_mono (ok := fun b => b ≠ g ∧ OK b ∧ some b ≠ (Value.slice Q 0 d).ownBlock) ?_ (fun k hk => ⟨⟨hk.1, hk.2.1⟩, hk.2.2⟩)); (repeat (first | exact Kd.R_below HQ2.out (below_alloc (Below.refl _ _) _) | apply Kd.R_drew)))); (case aF => (intro k hk; have h9 : V2.heap.size + 1 ≤ k := (by simpa using hk); have h8 := HS2.out; have h7 := HGX.out; exact ⟨by omega, HOK.out k (by omega)⟩)); (case aB => (repeat (first | apply below_drew1 | exact (Below.refl base V2).alloc (Nat.le_trans HBG.out (by have := HS2.out; omega)) _))); (case aS => exact Nat.le_trans HBG.out (Nat.le_of_lt (blk_lt (blk_alloc HK2.out.1 (.cells #[.bool true, .bool true, .slice A n c] 49))))); (case aL => (rw [HM.out]; omega)); intro v1 w1 ho hb hg hat; obtain ⟨Q1, d1, hv1⟩ := Kd.R_slice ho; obtain ⟨ll, hll⟩ : ∃ ll, (L ++ [(⟨true, true, q⟩ : Pc)]).length = ll := ⟨_, rfl⟩; rw [hll] at hv1; clear hll; subst hv1; have hw1 := blk_grown hg (blk_alloc HK2.out.1 (.cells #[.bool true, .bool true, .slice A n c] 49)) (fun e => (HK2.out.2.1 _ e.symm).1 rfl); have hwb := blk_grown hg (blk_alloc HX2.out (.cells #[.bool true, .bool true, .slice A n c] 49)) (fun e => HOWN.out e.symm); have z3 := blk_cell hwb 1; have u0 := blk_cell hw1 0; have u1 := blk_cell hw1 1; have w0 := blk_frozen hw1 0; have w1' := blk_frozen hw1 1; have HO1 := Aside0.mk ho; have HG1 := Aside0.mk hg; have HB1 := Aside0.mk hb; have HW1 := Aside0.mk hw1; clear ho hb hg hat hw1 hwb))
          all_goals go_wp2_with fail
          all_goals
            refine (refheld_any g Q1 ll d1 (L ++ [⟨true, true, q⟩]) false _ ?k1 ?k2 ?k3 HLD.out).mono ?_
            case k1 => exact blk_set (blk_set HW1.out 0 _) 1 _
            case k2 =>
              refine (R_C (base := base) (ok := fun b => b ≠ g ∧ OK b) (c := d1) (e := 49) ?_).2.2
              repeat (first | with_reducible refine Kd.R_far ?_ (fun k h => h.1) _ | with_reducible apply Kd.R_drew | with_reducible exact HO1.out)
            case k3 => exact (R_C HO1.out).2.1
            rintro e w7 ⟨vo, rfl, hR, hb7⟩
            have HK7 := Aside0.mk (blk_below (blk_set (blk_set HW1.out 0 (.slice Q1 ll d1)) 1 (.bool false)) hb7)
            have t0 := blk_cell HK7.out 0
            have t1 := blk_frozen HK7.out 0
            obtain ⟨Qo, dO, hvo⟩ := Kd.R_slice hR
            obtain ⟨lo, hlo⟩ : ∃ lo, (allD (L ++ [⟨true, true, q⟩])).length = lo := ⟨_, rfl⟩
            rw [hlo] at hvo
            clear hlo
            subst hvo
            have HR7 := Aside0.mk hR
            have HB7 := Aside0.mk hb7
            clear hR hb7
            go_wp2_with fail
            go_ret3
            refine ⟨.slice Qo lo dO, rfl, ?_, .slice none 0 0, ⟨?_, Kd.R_nil _ _ _ _ _⟩, ?_, ?_⟩
            · have hg6 := blk_lt (blk_set (blk_set HW1.out 0 (.slice Q1 ll d1)) 1 (.bool false))
              have r1 := Kd.R_mono (Kd.R_bound HR7.out) (ok' := fun k => g < k) (fun k hk => Nat.lt_of_lt_of_le hg6 hk.2.1)
              have r2 := Kd.R_far (p := ⟨g, 0, none⟩) r1 (fun k hk => Nat.ne_of_gt hk) (.slice none 0 0)
              exact Kd.R_mono (Kd.R_lower r2 (Nat.le_trans HBG.out (Nat.le_of_lt hg6))) (fun _ _ => trivial)
            · exact blk_set HK7.out 0 _
            · refine keep_below HB2.out (keep_below (below_alloc (Below.refl _ _) (.cells #[.bool true, .bool true, .slice A n c] 49)) (KeepBut.set_ (keep_then ?_ HB7.out) _ _))
              repeat (first | with_reducible refine KeepBut.set_ ?_ _ _ | with_reducible refine keep_drew ?_ | exact KeepBut.of_grown HG1.out g)
            · have hg6 := blk_lt (blk_set (blk_set HW1.out 0 (.slice Q1 ll d1)) 1 (.bool false))
              refine (HB2.out.mono (Nat.le_trans HBG.out (Nat.le_of_lt HGL.out))).trans (Below.setCell (Below.trans ?_ (HB7.out.mono (Nat.le_trans HBG.out (Nat.le_of_lt hg6)))) HBG.out _)
              repeat (first | with_reducible refine Below.setCell ?_ HBG.out _ | with_reducible refine Below.drew ?_ | with_reducible exact HB1.out)
  ·
    rcases hsf with rfl | ⟨rfl, h⟩
    ·
      rcases h3 with ⟨rfl, h3⟩ | ⟨rfl, h3⟩ | ⟨rfl, h3⟩
      ·
        go_enter Try.func17, Try.ntmps17
        go_wp2_with fail
        generalize hV : w.alloc (.cells #[.bool _, .bool _, .slice A n c] 49) = V at *
        obtain ⟨gx, hgx⟩ : ∃ gx, gx = w.heap.size := ⟨_, rfl⟩
        rw [← hgx]
        rw [← hgx] at HX HOWN
        have HGX := Aside0.mk hgx
        have HV := Aside0.mk hV
        have hgl : g < gx := by rw [hgx]; exact HGL.out
        have HGXL := Aside0.mk (blk_lt HX.out)
        clear hgx hV
        try go_frame
        refine region_grown (W := V)
          [fun (w : World) (v : Value) => v = .pointer (some ⟨g, 0, none⟩),
   fun (w : World) (v : Value) => ∃ A3 c3, v = Value.slice A3 ta c3,
   fun (w : World) (v : Value) => v = .int .i64 ta,
   fun (w : World) (v : Value) => v = .pointer (some ⟨gx, 2, none⟩),
   fun (w : World) (v : Value) => v = .slice A n c,
   fun (w : World) (v : Value) => v = .int .i64 n,
   fun (w : World) (v : Value) => v = .int .i64 ((ta : Int) + (n : Int)),
   fun (w : World) (v : Value) => v = .bool false,
   fun (w : World) (v : Value) => v = .bool false]
          (fun j =>  none)
          [(0, some 59), (1, some 60), (2, some 61), (3, some 62), (4, some 63), (5, some 64), (6, some 65), (7, some 66), (8, some 58)]
          []
          (by kernel_rfl) (by kernel_rfl) (by kernel_rfl) (by kernel_rfl) ?r8_7g ?r8_7s ⟨?r8_7o0, ?r8_7o1, ?r8_7o2, ?r8_7o3, ?r8_7o4, ?r8_7o5, ?r8_7o6, ?r8_7o7, ?r8_7o8, trivial⟩ ?r8_7e
        case r8_7g =>
          intro j hj; cases hj
        case r8_7s =>
          refine ⟨(fun w w' v hb h => h), (fun w w' v hb h => h), (fun w w' v hb h => h), (fun w w' v hb h => h), (fun w w' v hb h => h), (fun w w' v hb h => h), (fun w w' v hb h => h), (fun w w' v hb h => h), (fun w w' v hb h => h), trivial⟩
        case r8_7o0 =>
          intro vs w hb hV
          rw [if_pos (by kernel_rfl)]
          generalize hρ : rho _ _ _ vs = ρ
          have e0 : ρ (.tmp 0) = .pointer (some ⟨g, 0, none⟩) := by rw [← hρ]; kernel_rfl
          clear hρ hV
          refine runs_val (v := .pointer (some ⟨g, 0, none⟩)) (w' := w) ?_ ⟨Below.refl _ _, rfl⟩
          go_simp <;> (first | exact IntWalk.u64_in _ (by omega) | exact IntWalk.u32_in _ (by omega) | exact IntWalk.u16_in _ (by omega) | exact IntWalk.u8_in _ (by omega) | exact IntWalk.i64_in _ (by omega) | skip)
        case r8_7o1 =>
          intro vs w hb hV
          rw [if_pos (by kernel_rfl)]
          generalize hρ : rho _ _ _ vs = ρ
          have d59 : (vs 0) = .pointer (some ⟨g, 0, none⟩) := hV 0 (by kernel_rfl)
          have e59 : ρ (.tmp 59) = vs 0 := by rw [← hρ]; kernel_rfl
          rw [d59] at e59; clear d59
          have ef19 : ρ (.func 19) = .func (.func 19) #[] #[] := by rw [← hρ]; rfl
          clear hρ hV
          refine runs_call (f := 19) (args := #[.pointer (some ⟨g, 0, none⟩)]) (w' := w) ?_ ?_
          · go_simp
          · refine (refheld_any g Q _ d L _ _ (blk_below HK.out.1 hb) (Kd.C_below (R_C HK.out.2).2.2 hb) (R_C HK.out.2).2.1 (by rw [HTA.out]; omega)).mono ?_
            rintro e w5 ⟨v5, rfl, hR, hb5⟩
            obtain ⟨A3, c3, e5⟩ := Kd.R_slice hR
            exact ⟨v5, rfl, hb5, A3, c3, by rw [e5, HTA.out]⟩
        case r8_7o2 =>
          intro vs w hb hV
          rw [if_pos (by kernel_rfl)]
          generalize hρ : rho _ _ _ vs = ρ
          have d60 : (fun (w : World) (v : Value) => ∃ A3 c3, v = Value.slice A3 ta c3) w (vs 1) := hV 1 (by kernel_rfl)
          have e60 : ρ (.tmp 60) = vs 1 := by rw [← hρ]; kernel_rfl
          obtain ⟨A3, c3, h60⟩ := d60
          clear hρ hV
          rw [h60] at e60
          refine runs_val (v := .int .i64 ta) (w' := w) ?_ ⟨Below.refl _ _, rfl⟩
          go_simp
        case r8_7o3 =>
          intro vs w hb hV
          rw [if_pos (by kernel_rfl)]
          generalize hρ : rho _ _ _ vs = ρ
          have e3 : ρ (.tmp 3) = .pointer (some ⟨gx, 0, none⟩) := by rw [← hρ]; kernel_rfl
          clear hρ hV
          refine runs_val (v := .pointer (some ⟨gx, 2, none⟩)) (w' := w) ?_ ⟨Below.refl _ _, rfl⟩
          go_simp <;> (first | exact IntWalk.u64_in _ (by omega) | exact IntWalk.u32_in _ (by omega) | exact IntWalk.u16_in _ (by omega) | exact IntWalk.u8_in _ (by omega) | exact IntWalk.i64_in _ (by omega) | skip)
        case r8_7o4 =>
          intro vs w hb hV
          rw [if_pos (by kernel_rfl)]
          generalize hρ : rho _ _ _ vs = ρ
          have d62 : (vs 3) = .pointer (some ⟨gx, 2, none⟩) := hV 3 (by kernel_rfl)
          have e62 : ρ (.tmp 62) = vs 3 := by rw [← hρ]; kernel_rfl
          rw [d62] at e62; clear d62
          clear hρ hV
          have c2 := pw_cell_below hb (blk_cell HX.out 2)
          refine runs_val (v := .slice A n c) (w' := w) ?_ ⟨Below.refl _ _, rfl⟩
          go_simp
        case r8_7o5 =>
          intro vs w hb hV
          rw [if_pos (by kernel_rfl)]
          generalize hρ : rho _ _ _ vs = ρ
          have d63 : (vs 4) = .slice A n c := hV 4 (by kernel_rfl)
          have e63 : ρ (.tmp 63) = vs 4 := by rw [← hρ]; kernel_rfl
          rw [d63] at e63; clear d63
          clear hρ hV
          refine runs_val (v := .int .i64 n) (w' := w) ?_ ⟨Below.refl _ _, rfl⟩
          go_simp <;> (first | exact IntWalk.u64_in _ (by omega) | exact IntWalk.u32_in _ (by omega) | exact IntWalk.u16_in _ (by omega) | exact IntWalk.u8_in _ (by omega) | exact IntWalk.i64_in _ (by omega) | skip)
        case r8_7o6 =>
          intro vs w hb hV
          rw [if_pos (by kernel_rfl)]
          generalize hρ : rho _ _ _ vs = ρ
          have d61 : (vs 2) = .int .i64 ta := hV 2 (by kernel_rfl)
          have e61 : ρ (.tmp 61) = vs 2 := by rw [← hρ]; kernel_rfl
          rw [d61] at e61; clear d61
          have d64 : (vs 5) = .int .i64 n := hV 5 (by kernel_rfl)
          have e64 : ρ (.tmp 64) = vs 5 := by rw [← hρ]; kernel_rfl
          rw [d64] at e64; clear d64
          clear hρ hV
          refine runs_val (v := .int .i64 ((ta : Int) + (n : Int))) (w' := w) ?_ ⟨Below.refl _ _, rfl⟩
          go_simp <;> (first | exact IntWalk.u64_in _ (by omega) | exact IntWalk.u32_in _ (by omega) | exact IntWalk.u16_in _ (by omega) | exact IntWalk.u8_in _ (by omega) | exact IntWalk.i64_in _ (by omega) | skip)
        case r8_7o7 =>
          intro vs w hb hV
          rw [if_pos (by kernel_rfl)]
          generalize hρ : rho _ _ _ vs = ρ
          have d65 : (vs 6) = .int .i64 ((ta : Int) + (n : Int)) := hV 6 (by kernel_rfl)
          have e65 : ρ (.tmp 65) = vs 6 := by rw [← hρ]; kernel_rfl
          rw [d65] at e65; clear d65
          have econ : ∀ v : Value, ρ (.const v) = v := fun v => by rw [← hρ]; rfl
          clear hρ hV
          refine runs_val (v := .bool false) (w' := w) ?_ ⟨Below.refl _ _, rfl⟩
          go_simp <;> (first | exact IntWalk.u64_in _ (by omega) | exact IntWalk.u32_in _ (by omega) | exact IntWalk.u16_in _ (by omega) | exact IntWalk.u8_in _ (by omega) | exact IntWalk.i64_in _ (by omega) | skip)
        case r8_7o8 =>
          intro vs w hb hV
          rw [if_pos (by kernel_rfl)]
          generalize hρ : rho _ _ _ vs = ρ
          have d66 : (vs 7) = .bool false := hV 7 (by kernel_rfl)
          have e66 : ρ (.tmp 66) = vs 7 := by rw [← hρ]; kernel_rfl
          rw [d66] at e66; clear d66
          clear hρ hV
          refine runs_val (v := .bool false) (w' := w) ?_ ⟨Below.refl _ _, rfl⟩
          go_simp <;> (first | exact IntWalk.u64_in _ (by omega) | exact IntWalk.u32_in _ (by omega) | exact IntWalk.u16_in _ (by omega) | exact IntWalk.u8_in _ (by omega) | exact IntWalk.i64_in _ (by omega) | skip)
        case r8_7e =>
          intro vs V2 hb2 hV
          have d59 : (vs 0) = .pointer (some ⟨g, 0, none⟩) := hV 0 (Nat.le_of_ble_eq_true rfl)
          have d60 : (fun (w : World) (v : Value) => ∃ A3 c3, v = Value.slice A3 ta c3) V2 (vs 1) := hV 1 (Nat.le_of_ble_eq_true rfl)
          have d61 : (vs 2) = .int .i64 ta := hV 2 (Nat.le_of_ble_eq_true rfl)
          have d62 : (vs 3) = .pointer (some ⟨gx, 2, none⟩) := hV 3 (Nat.le_of_ble_eq_true rfl)
          have d63 : (vs 4) = .slice A n c := hV 4 (Nat.le_of_ble_eq_true rfl)
          have d64 : (vs 5) = .int .i64 n := hV 5 (Nat.le_of_ble_eq_true rfl)
          have d65 : (vs 6) = .int .i64 ((ta : Int) + (n : Int)) := hV 6 (Nat.le_of_ble_eq_true rfl)
          have d66 : (vs 7) = .bool false := hV 7 (Nat.le_of_ble_eq_true rfl)
          have d58 : (vs 8) = .bool false := hV 8 (Nat.le_of_ble_eq_true rfl)
          clear hV
          simp only [putAll]
          rw [d59, d61, d62, d63, d64, d65, d66, d58]
          clear d59 d61 d62 d63 d64 d65 d66 d58
          generalize vs 1 = v60 at *
          clear vs
          simp only [Act.put, List.setIfInBounds_toArray, List.set_cons_zero, List.set_cons_succ]
          have HK2 := Aside0.mk (HK.out.below hb2)
          have HB2 := Aside0.mk (below_step HB0.out hb2)
          have HQ2 := Aside0.mk (Kd.R_below HQ.out hb2)
          have HX2 := Aside0.mk (blk_below HX.out hb2)
          have z0 := blk_cell HK2.out.1 0
          have z1 := blk_cell HK2.out.1 1
          have y0 := blk_frozen HK2.out.1 0
          have y1 := blk_frozen HK2.out.1 1
          have b0 := blk_cell HX2.out 0
          have b1 := blk_cell HX2.out 1
          have b2 := blk_cell HX2.out 2
          have za0 := blk_cell (blk_alloc HK2.out.1 (.cells #[.bool false, .bool false, .slice A n c] 49)) 0
          have HS2 := Aside0.mk (show gx < V2.heap.size from blk_lt HX2.out)
          obtain ⟨A3, c3, hv60⟩ := d60
          subst hv60
          clear hb2 c0 c1
          go_wp2_with fail
          go_region_law (first | (refine Kd.R_append_rows_step kP (Rr := fun y cs => y = ⟨false, false, q⟩ ∧ cs = [.bool false, .bool false, .slice A n c]) (w0 := V2) base ?aW (.tmp 81) (.tmp 83) 43 49 (.agg #[(.bool false), (.bool false), (.slice none 0 0)]) 32 rfl Try.underlying43 info49' rfl (by decide) (by omega) (.slice Q m d) L [⟨false, false, q⟩] (some ⟨V2.heap.size, 0, none⟩) 1 1 (fun b => b ≠ g ∧ OK b) (fun b => (b ≠ g ∧ OK b) ∧ some b ≠ (Value.slice Q m d).ownBlock) rfl rfl ?aO ?aR ?aM (fun _ h => h) ?aF ?aB ?aS ?aL ?_; (case aW => rfl); (case aO => (repeat (first | exact Kd.R_below HK2.out.2 (below_alloc (Below.refl _ _) _) | apply Kd.R_drew))); (case aR => exact one_piece (blk_new V2 (.cells #[.bool false, .bool false, .slice A n c] 49))); (case aM => (rintro y cs ⟨rfl, rfl⟩; refine kP_mkM _ _ _ ⟨false, false, q⟩ (Kd.R_mono (ok := fun b => b ≠ g ∧ OK b ∧ some b ≠ (Value.slice Q m d).ownBlock) ?_ (fun k hk => ⟨⟨hk.1, hk.2.1⟩, hk.2.2⟩)); (repeat (first | exact Kd.R_below HQ2.out (below_alloc (Below.refl _ _) _) | apply Kd.R_drew)))); (case aF => (intro k hk; have h9 : V2.heap.size + 1 ≤ k := (by simpa using hk); have h8 := HS2.out; have h7 := HGX.out; exact ⟨by omega, HOK.out k (by omega)⟩)); (case aB => (repeat (first | apply below_drew1 | exact (Below.refl base V2).alloc (Nat.le_trans HBG.out (by have := HS2.out; omega)) _))); (case aS => exact Nat.le_trans HBG.out (Nat.le_of_lt (blk_lt (blk_alloc HK2.out.1 (.cells #[.bool false, .bool false, .slice A n c] 49))))); (case aL => (rw [HM.out]; omega)); intro v1 w1 ho hb hg hat; obtain ⟨Q1, d1, hv1⟩ := Kd.R_slice ho; obtain ⟨ll, hll⟩ : ∃ ll, (L ++ [(⟨false, false, q⟩ : Pc)]).length = ll := ⟨_, rfl⟩; rw [hll] at hv1; clear hll; subst hv1; have hw1 := blk_grown hg (blk_alloc HK2.out.1 (.cells #[.bool false, .bool false, .slice A n c] 49)) (fun e => (HK2.out.2.1 _ e.symm).1 rfl); have hwb := blk_grown hg (blk_alloc HX2.out (.cells #[.bool false, .bool false, .slice A n c] 49)) (fun e => HOWN.out e.symm); have z3 := blk_cell hwb 1; have u0 := blk_cell hw1 0; have u1 := blk_cell hw1 1; have w0 := blk_frozen hw1 0; have w1' := blk_frozen hw1 1; have HO1 := Aside0.mk ho; have HG1 := Aside0.mk hg; have HB1 := Aside0.mk hb; have HW1 := Aside0.mk hw1; clear ho hb hg hat hw1 hwb))
          all_goals go_wp2_with fail
          all_goals go_ret3
          all_goals
            refine ⟨.slice none 0 0, rfl, Kd.R_nil _ _ _ _ _, .slice Q1 ll d1, ⟨?_, ?_⟩, ?_, ?_⟩
            · exact blk_set (blk_set HW1.out 0 _) 1 _
            · repeat (first | with_reducible refine Kd.R_far ?_ (fun k h => h.1) _ | with_reducible apply Kd.R_drew | with_reducible exact HO1.out)
            · exact keep_below HB2.out (keep_below (below_alloc (Below.refl _ _) (.cells #[.bool false, .bool false, .slice A n c] 49)) (by
                repeat (first | with_reducible refine KeepBut.set_ ?_ _ _ | with_reducible refine keep_drew ?_ | exact KeepBut.of_grown HG1.out g)))
            · refine (HB2.out.mono (Nat.le_trans HBG.out (Nat.le_of_lt HGL.out))).trans ?_
              repeat (first | with_reducible refine Below.setCell ?_ HBG.out _ | with_reducible refine Below.drew ?_ | with_reducible exact HB1.out)
      ·
        go_enter Try.func17, Try.ntmps17
        go_wp2_with fail
        generalize hV : w.alloc (.cells #[.bool _, .bool _, .slice A n c] 49) = V at *
        obtain ⟨gx, hgx⟩ : ∃ gx, gx = w.heap.size := ⟨_, rfl⟩
        rw [← hgx]
        rw [← hgx] at HX HOWN
        have HGX := Aside0.mk hgx
        have HV := Aside0.mk hV
        have hgl : g < gx := by rw [hgx]; exact HGL.out
        have HGXL := Aside0.mk (blk_lt HX.out)
        clear hgx hV
        try go_frame
        refine region_grown (W := V)
          [fun (w : World) (v : Value) => v = .pointer (some ⟨g, 0, none⟩),
   fun (w : World) (v : Value) => ∃ A3 c3, v = Value.slice A3 ta c3,
   fun (w : World) (v : Value) => v = .int .i64 ta,
   fun (w : World) (v : Value) => v = .pointer (some ⟨gx, 2, none⟩),
   fun (w : World) (v : Value) => v = .slice A n c,
   fun (w : World) (v : Value) => v = .int .i64 n,
   fun (w : World) (v : Value) => v = .int .i64 ((ta : Int) + (n : Int)),
   fun (w : World) (v : Value) => v = .bool false,
   fun (w : World) (v : Value) => v = .bool false]
          (fun j =>  none)
          [(0, some 59), (1, some 60), (2, some 61), (3, some 62), (4, some 63), (5, some 64), (6, some 65), (7, some 66), (8, some 58)]
          []
          (by kernel_rfl) (by kernel_rfl) (by kernel_rfl) (by kernel_rfl) ?r8_8g ?r8_8s ⟨?r8_8o0, ?r8_8o1, ?r8_8o2, ?r8_8o3, ?r8_8o4, ?r8_8o5, ?r8_8o6, ?r8_8o7, ?r8_8o8, trivial⟩ ?r8_8e
        case r8_8g =>
          intro j hj; cases hj
        case r8_8s =>
          refine ⟨(fun w w' v hb h => h), (fun w w' v hb h => h), (fun w w' v hb h => h), (fun w w' v hb h => h), (fun w w' v hb h => h), (fun w w' v hb h => h), (fun w w' v hb h => h), (fun w w' v hb h => h), (fun w w' v hb h => h), trivial⟩
        case r8_8o0 =>
          intro vs w hb hV
          rw [if_pos (by kernel_rfl)]
          generalize hρ : rho _ _ _ vs = ρ
          have e0 : ρ (.tmp 0) = .pointer (some ⟨g, 0, none⟩) := by rw [← hρ]; kernel_rfl
          clear hρ hV
          refine runs_val (v := .pointer (some ⟨g, 0, none⟩)) (w' := w) ?_ ⟨Below.refl _ _, rfl⟩
          go_simp <;> (first | exact IntWalk.u64_in _ (by omega) | exact IntWalk.u32_in _ (by omega) | exact IntWalk.u16_in _ (by omega) | exact IntWalk.u8_in _ (by omega) | exact IntWalk.i64_in _ (by omega) | skip)
        case r8_8o1 =>
          intro vs w hb hV
          rw [if_pos (by kernel_rfl)]
          generalize hρ : rho _ _ _ vs = ρ
          have d59 : (vs 0) = .pointer (some ⟨g, 0, none⟩) := hV 0 (by kernel_rfl)
          have e59 : ρ (.tmp 59) = vs 0 := by rw [← hρ]; kernel_rfl
          rw [d59] at e59; clear d59
          have ef19 : ρ (.func 19) = .func (.func 19) #[] #[] := by rw [← hρ]; rfl
          clear hρ hV
          refine runs_call (f := 19) (args := #[.pointer (some ⟨g, 0, none⟩)]) (w' := w) ?_ ?_
          · go_simp
          · refine (refheld_any g Q _ d L _ _ (blk_below HK.out.1 hb) (Kd.C_below (R_C HK.out.2).2.2 hb) (R_C HK.out.2).2.1 (by rw [HTA.out]; omega)).mono ?_
            rintro e w5 ⟨v5, rfl, hR, hb5⟩
            obtain ⟨A3, c3, e5⟩ := Kd.R_slice hR
            exact ⟨v5, rfl, hb5, A3, c3, by rw [e5, HTA.out]⟩
        case r8_8o2 =>
          intro vs w hb hV
          rw [if_pos (by kernel_rfl)]
          generalize hρ : rho _ _ _ vs = ρ
          have d60 : (fun (w : World) (v : Value) => ∃ A3 c3, v = Value.slice A3 ta c3) w (vs 1) := hV 1 (by kernel_rfl)
          have e60 : ρ (.tmp 60) = vs 1 := by rw [← hρ]; kernel_rfl
          obtain ⟨A3, c3, h60⟩ := d60
          clear hρ hV
          rw [h60] at e60
          refine runs_val (v := .int .i64 ta) (w' := w) ?_ ⟨Below.refl _ _, rfl⟩
          go_simp
        case r8_8o3 =>
          intro vs w hb hV
          rw [if_pos (by kernel_rfl)]
          generalize hρ : rho _ _ _ vs = ρ
          have e3 : ρ (.tmp 3) = .pointer (some ⟨gx, 0, none⟩) := by rw [← hρ]; kernel_rfl
          clear hρ hV
          refine runs_val (v := .pointer (some ⟨gx, 2, none⟩)) (w' := w) ?_ ⟨Below.refl _ _, rfl⟩
          go_simp <;> (first | exact IntWalk.u64_in _ (by omega) | exact IntWalk.u32_in _ (by omega) | exact IntWalk.u16_in _ (by omega) | exact IntWalk.u8_in _ (by omega) | exact IntWalk.i64_in _ (by omega) | skip)
        case r8_8o4 =>
          intro vs w hb hV
          rw [if_pos (by kernel_rfl)]
          generalize hρ : rho _ _ _ vs = ρ
          have d62 : (vs 3) = .pointer (some ⟨gx, 2, none⟩) := hV 3 (by kernel_rfl)
          have e62 : ρ (.tmp 62) = vs 3 := by rw [← hρ]; kernel_rfl
          rw [d62] at e62; clear d62
          clear hρ hV
          have c2 := pw_cell_below hb (blk_cell HX.out 2)
          refine runs_val (v := .slice A n c) (w' := w) ?_ ⟨Below.refl _ _, rfl⟩
          go_simp
        case r8_8o5 =>
          intro vs w hb hV
          rw [if_pos (by kernel_rfl)]
          generalize hρ : rho _ _ _ vs = ρ
          have d63 : (vs 4) = .slice A n c := hV 4 (by kernel_rfl)
          have e63 : ρ (.tmp 63) = vs 4 := by rw [← hρ]; kernel_rfl
          rw [d63] at e63; clear d63
          clear hρ hV
          refine runs_val (v := .int .i64 n) (w' := w) ?_ ⟨Below.refl _ _, rfl⟩
          go_simp <;> (first | exact IntWalk.u64_in _ (by omega) | exact IntWalk.u32_in _ (by omega) | exact IntWalk.u16_in _ (by omega) | exact IntWalk.u8_in _ (by omega) | exact IntWalk.i64_in _ (by omega) | skip)
        case r8_8o6 =>
          intro vs w hb hV
          rw [if_pos (by kernel_rfl)]
          generalize hρ : rho _ _ _ vs = ρ
          have d61 : (vs 2) = .int .i64 ta := hV 2 (by kernel_rfl)
          have e61 : ρ (.tmp 61) = vs 2 := by rw [← hρ]; kernel_rfl
          rw [d61] at e61; clear d61
          have d64 : (vs 5) = .int .i64 n := hV 5 (by kernel_rfl)
          have e64 : ρ (.tmp 64) = vs 5 := by rw [← hρ]; kernel_rfl
          rw [d64] at e64; clear d64
          clear hρ hV
          refine runs_val (v := .int .i64 ((ta : Int) + (n : Int))) (w' := w) ?_ ⟨Below.refl _ _, rfl⟩
          go_simp <;> (first | exact IntWalk.u64_in _ (by omega) | exact IntWalk.u32_in _ (by omega) | exact IntWalk.u16_in _ (by omega) | exact IntWalk.u8_in _ (by omega) | exact IntWalk.i64_in _ (by omega) | skip)
        case r8_8o7 =>
          intro vs w hb hV
          rw [if_pos (by kernel_rfl)]
          generalize hρ : rho _ _ _ vs = ρ
          have d65 : (vs 6) = .int .i64 ((ta : Int) + (n : Int)) := hV 6 (by kernel_rfl)
          have e65 : ρ (.tmp 65) = vs 6 := by rw [← hρ]; kernel_rfl
          rw [d65] at e65; clear d65
          have econ : ∀ v : Value, ρ (.const v) = v := fun v => by rw [← hρ]; rfl
          clear hρ hV
          refine runs_val (v := .bool false) (w' := w) ?_ ⟨Below.refl _ _, rfl⟩
          go_simp <;> (first | exact IntWalk.u64_in _ (by omega) | exact IntWalk.u32_in _ (by omega) | exact IntWalk.u16_in _ (by omega) | exact IntWalk.u8_in _ (by omega) | exact IntWalk.i64_in _ (by omega) | skip)
        case r8_8o8 =>
          intro vs w hb hV
          rw [if_pos (by kernel_rfl)]
          generalize hρ : rho _ _ _ vs = ρ
          have d66 : (vs 7) = .bool false := hV 7 (by kernel_rfl)
          have e66 : ρ (.tmp 66) = vs 7 := by rw [← hρ]; kernel_rfl
          rw [d66] at e66; clear d66
          clear hρ hV
          refine runs_val (v := .bool false) (w' := w) ?_ ⟨Below.refl _ _, rfl⟩
          go_simp <;> (first | exact IntWalk.u64_in _ (by omega) | exact IntWalk.u32_in _ (by omega) | exact IntWalk.u16_in _ (by omega) | exact IntWalk.u8_in _ (by omega) | exact IntWalk.i64_in _ (by omega) | skip)
        case r8_8e =>
          intro vs V2 hb2 hV
          have d59 : (vs 0) = .pointer (some ⟨g, 0, none⟩) := hV 0 (Nat.le_of_ble_eq_true rfl)
          have d60 : (fun (w : World) (v : Value) => ∃ A3 c3, v = Value.slice A3 ta c3) V2 (vs 1) := hV 1 (Nat.le_of_ble_eq_true rfl)
          have d61 : (vs 2) = .int .i64 ta := hV 2 (Nat.le_of_ble_eq_true rfl)
          have d62 : (vs 3) = .pointer (some ⟨gx, 2, none⟩) := hV 3 (Nat.le_of_ble_eq_true rfl)
          have d63 : (vs 4) = .slice A n c := hV 4 (Nat.le_of_ble_eq_true rfl)
          have d64 : (vs 5) = .int .i64 n := hV 5 (Nat.le_of_ble_eq_true rfl)
          have d65 : (vs 6) = .int .i64 ((ta : Int) + (n : Int)) := hV 6 (Nat.le_of_ble_eq_true rfl)
          have d66 : (vs 7) = .bool false := hV 7 (Nat.le_of_ble_eq_true rfl)
          have d58 : (vs 8) = .bool false := hV 8 (Nat.le_of_ble_eq_true rfl)
          clear hV
          simp only [putAll]
          rw [d59, d61, d62, d63, d64, d65, d66, d58]
          clear d59 d61 d62 d63 d64 d65 d66 d58
          generalize vs 1 = v60 at *
          clear vs
          simp only [Act.put, List.setIfInBounds_toArray, List.set_cons_zero, List.set_cons_succ]
          have HK2 := Aside0.mk (HK.out.below hb2)
          have HB2 := Aside0.mk (below_step HB0.out hb2)
          have HQ2 := Aside0.mk (Kd.R_below HQ.out hb2)
          have HX2 := Aside0.mk (blk_below HX.out hb2)
          have z0 := blk_cell HK2.out.1 0
          have z1 := blk_cell HK2.out.1 1
          have y0 := blk_frozen HK2.out.1 0
          have y1 := blk_frozen HK2.out.1 1
          have b0 := blk_cell HX2.out 0
          have b1 := blk_cell HX2.out 1
          have b2 := blk_cell HX2.out 2
          have za0 := blk_cell (blk_alloc HK2.out.1 (.cells #[.bool false, .bool true, .slice A n c] 49)) 0
          have HS2 := Aside0.mk (show gx < V2.heap.size from blk_lt HX2.out)
          obtain ⟨A3, c3, hv60⟩ := d60
          subst hv60
          clear hb2 c0 c1
          go_wp2_with fail
          go_region_law (first | (refine Kd.R_append_rows_step kP (Rr := fun y cs => y = ⟨false, true, q⟩ ∧ cs = [.bool false, .bool true, .slice A n c]) (w0 := V2) base ?aW (.tmp 81) (.tmp 83) 43 49 (.agg #[(.bool false), (.bool false), (.slice none 0 0)]) 32 rfl Try.underlying43 info49' rfl (by decide) (by omega) (.slice Q m d) L [⟨false, true, q⟩] (some ⟨V2.heap.size, 0, none⟩) 1 1 (fun b => b ≠ g ∧ OK b) (fun b => (b ≠ g ∧ OK b) ∧ some b ≠ (Value.slice Q m d).ownBlock) rfl rfl ?aO ?aR ?aM (fun _ h => h) ?aF ?aB ?aS ?aL ?_; (case aW => rfl); (case aO => (repeat (first | exact Kd.R_below HK2.out.2 (below_alloc (Below.refl _ _) _) | apply Kd.R_drew))); (case aR => exact one_piece (blk_new V2 (.cells #[.bool false, .bool true, .slice A n c] 49))); (case aM => (rintro y cs ⟨rfl, rfl⟩; refine kP_mkM _ _ _ ⟨false, true, q⟩ (Kd.R_mono (ok := fun b => b ≠ g ∧ OK b ∧ some b ≠ (Value.slice Q m d).ownBlock) ?_ (fun k hk => ⟨⟨hk.1, hk.2.1⟩, hk.2.2⟩)); (repeat (first | exact Kd.R_below HQ2.out (below_alloc (Below.refl _ _) _) | apply Kd.R_drew)))); (case aF => (intro k hk; have h9 : V2.heap.size + 1 ≤ k := (by simpa using hk); have h8 := HS2.out; have h7 := HGX.out; exact ⟨by omega, HOK.out k (by omega)⟩)); (case aB => (repeat (first | apply below_drew1 | exact (Below.refl base V2).alloc (Nat.le_trans HBG.out (by have := HS2.out; omega)) _))); (case aS => exact Nat.le_trans HBG.out (Nat.le_of_lt (blk_lt (blk_alloc HK2.out.1 (.cells #[.bool false, .bool true, .slice A n c] 49))))); (case aL => (rw [HM.out]; omega)); intro v1 w1 ho hb hg hat; obtain ⟨Q1, d1, hv1⟩ := Kd.R_slice ho; obtain ⟨ll, hll⟩ : ∃ ll, (L ++ [(⟨false, true, q⟩ : Pc)]).length = ll := ⟨_, rfl⟩; rw [hll] at hv1; clear hll; subst hv1; have hw1 := blk_grown hg (blk_alloc HK2.out.1 (.cells #[.bool false, .bool true, .slice A n c] 49)) (fun e => (HK2.out.2.1 _ e.symm).1 rfl); have hwb := blk_grown hg (blk_alloc HX2.out (.cells #[.bool false, .bool true, .slice A n c] 49)) (fun e => HOWN.out e.symm); have z3 := blk_cell hwb 1; have u0 := blk_cell hw1 0; have u1 := blk_cell hw1 1; have w0 := blk_frozen hw1 0; have w1' := blk_frozen hw1 1; have HO1 := Aside0.mk ho; have HG1 := Aside0.mk hg; have HB1 := Aside0.mk hb; have HW1 := Aside0.mk hw1; clear ho hb hg hat hw1 hwb))
          all_goals go_wp2_with fail
          all_goals
            refine (refheld_any g Q1 ll d1 (L ++ [⟨false, true, q⟩]) false _ ?k1 ?k2 ?k3 HLD.out).mono ?_
            case k1 => exact blk_set (blk_set HW1.out 0 _) 1 _
            case k2 =>
              refine (R_C (base := base) (ok := fun b => b ≠ g ∧ OK b) (c := d1) (e := 49) ?_).2.2
              repeat (first | with_reducible refine Kd.R_far ?_ (fun k h => h.1) _ | with_reducible apply Kd.R_drew | with_reducible exact HO1.out)
            case k3 => exact (R_C HO1.out).2.1
            rintro e w7 ⟨vo, rfl, hR, hb7⟩
            have HK7 := Aside0.mk (blk_below (blk_set (blk_set HW1.out 0 (.slice Q1 ll d1)) 1 (.bool false)) hb7)
            have t0 := blk_cell HK7.out 0
            have t1 := blk_frozen HK7.out 0
            obtain ⟨Qo, dO, hvo⟩ := Kd.R_slice hR
            obtain ⟨lo, hlo⟩ : ∃ lo, (allD (L ++ [⟨false, true, q⟩])).length = lo := ⟨_, rfl⟩
            rw [hlo] at hvo
            clear hlo
            subst hvo
            have HR7 := Aside0.mk hR
            have HB7 := Aside0.mk hb7
            clear hR hb7
            go_wp2_with fail
            go_ret3
            refine ⟨.slice Qo lo dO, rfl, ?_, .slice none 0 0, ⟨?_, Kd.R_nil _ _ _ _ _⟩, ?_, ?_⟩
            · have hg6 := blk_lt (blk_set (blk_set HW1.out 0 (.slice Q1 ll d1)) 1 (.bool false))
              have r1 := Kd.R_mono (Kd.R_bound HR7.out) (ok' := fun k => g < k) (fun k hk => Nat.lt_of_lt_of_le hg6 hk.2.1)
              have r2 := Kd.R_far (p := ⟨g, 0, none⟩) r1 (fun k hk => Nat.ne_of_gt hk) (.slice none 0 0)
              exact Kd.R_mono (Kd.R_lower r2 (Nat.le_trans HBG.out (Nat.le_of_lt hg6))) (fun _ _ => trivial)
            · exact blk_set HK7.out 0 _
            · refine keep_below HB2.out (keep_below (below_alloc (Below.refl _ _) (.cells #[.bool false, .bool true, .slice A n c] 49)) (KeepBut.set_ (keep_then ?_ HB7.out) _ _))
              repeat (first | with_reducible refine KeepBut.set_ ?_ _ _ | with_reducible refine keep_drew ?_ | exact KeepBut.of_grown HG1.out g)
            · have hg6 := blk_lt (blk_set (blk_set HW1.out 0 (.slice Q1 ll d1)) 1 (.bool false))
              refine (HB2.out.mono (Nat.le_trans HBG.out (Nat.le_of_lt HGL.out))).trans (Below.setCell (Below.trans ?_ (HB7.out.mono (Nat.le_trans HBG.out (Nat.le_of_lt hg6)))) HBG.out _)
              repeat (first | with_reducible refine Below.setCell ?_ HBG.out _ | with_reducible refine Below.drew ?_ | with_reducible exact HB1.out)
      ·
        go_enter Try.func17, Try.ntmps17
        go_wp2_with fail
        generalize hV : w.alloc (.cells #[.bool _, .bool _, .slice A n c] 49) = V at *
        obtain ⟨gx, hgx⟩ : ∃ gx, gx = w.heap.size := ⟨_, rfl⟩
        rw [← hgx]
        rw [← hgx] at HX HOWN
        have HGX := Aside0.mk hgx
        have HV := Aside0.mk hV
        have hgl : g < gx := by rw [hgx]; exact HGL.out
        have HGXL := Aside0.mk (blk_lt HX.out)
        clear hgx hV
        try go_frame
        refine region_grown (W := V)
          [fun (w : World) (v : Value) => v = .pointer (some ⟨g, 0, none⟩),
   fun (w : World) (v : Value) => ∃ A3 c3, v = Value.slice A3 ta c3,
   fun (w : World) (v : Value) => v = .int .i64 ta,
   fun (w : World) (v : Value) => v = .pointer (some ⟨gx, 2, none⟩),
   fun (w : World) (v : Value) => v = .slice A n c,
   fun (w : World) (v : Value) => v = .int .i64 n,
   fun (w : World) (v : Value) => v = .int .i64 ((ta : Int) + (n : Int)),
   fun (w : World) (v : Value) => v = .bool false,
   fun (w : World) (v : Value) => v = .bool false]
          (fun j =>  none)
          [(0, some 59), (1, some 60), (2, some 61), (3, some 62), (4, some 63), (5, some 64), (6, some 65), (7, some 66), (8, some 58)]
          []
          (by kernel_rfl) (by kernel_rfl) (by kernel_rfl) (by kernel_rfl) ?r8_9g ?r8_9s ⟨?r8_9o0, ?r8_9o1, ?r8_9o2, ?r8_9o3, ?r8_9o4, ?r8_9o5, ?r8_9o6, ?r8_9o7, ?r8_9o8, trivial⟩ ?r8_9e
        case r8_9g =>
          intro j hj; cases hj
        case r8_9s =>
          refine ⟨(fun w w' v hb h => h), (fun w w' v hb h => h), (fun w w' v hb h => h), (fun w w' v hb h => h), (fun w w' v hb h => h), (fun w w' v hb h => h), (fun w w' v hb h => h), (fun w w' v hb h => h), (fun w w' v hb h => h), trivial⟩
        case r8_9o0 =>
          intro vs w hb hV
          rw [if_pos (by kernel_rfl)]
          generalize hρ : rho _ _ _ vs = ρ
          have e0 : ρ (.tmp 0) = .pointer (some ⟨g, 0, none⟩) := by rw [← hρ]; kernel_rfl
          clear hρ hV
          refine runs_val (v := .pointer (some ⟨g, 0, none⟩)) (w' := w) ?_ ⟨Below.refl _ _, rfl⟩
          go_simp <;> (first | exact IntWalk.u64_in _ (by omega) | exact IntWalk.u32_in _ (by omega) | exact IntWalk.u16_in _ (by omega) | exact IntWalk.u8_in _ (by omega) | exact IntWalk.i64_in _ (by omega) | skip)
        case r8_9o1 =>
          intro vs w hb hV
          rw [if_pos (by kernel_rfl)]
          generalize hρ : rho _ _ _ vs = ρ
          have d59 : (vs 0) = .pointer (some ⟨g, 0, none⟩) := hV 0 (by kernel_rfl)
          have e59 : ρ (.tmp 59) = vs 0 := by rw [← hρ]; kernel_rfl
          rw [d59] at e59; clear d59
          have ef19 : ρ (.func 19) = .func (.func 19) #[] #[] := by rw [← hρ]; rfl
          clear hρ hV
          refine runs_call (f := 19) (args := #[.pointer (some ⟨g, 0, none⟩)]) (w' := w) ?_ ?_
          · go_simp
          · refine (refheld_any g Q _ d L _ _ (blk_below HK.out.1 hb) (Kd.C_below (R_C HK.out.2).2.2 hb) (R_C HK.out.2).2.1 (by rw [HTA.out]; omega)).mono ?_
            rintro e w5 ⟨v5, rfl, hR, hb5⟩
            obtain ⟨A3, c3, e5⟩ := Kd.R_slice hR
            exact ⟨v5, rfl, hb5, A3, c3, by rw [e5, HTA.out]⟩
        case r8_9o2 =>
          intro vs w hb hV
          rw [if_pos (by kernel_rfl)]
          generalize hρ : rho _ _ _ vs = ρ
          have d60 : (fun (w : World) (v : Value) => ∃ A3 c3, v = Value.slice A3 ta c3) w (vs 1) := hV 1 (by kernel_rfl)
          have e60 : ρ (.tmp 60) = vs 1 := by rw [← hρ]; kernel_rfl
          obtain ⟨A3, c3, h60⟩ := d60
          clear hρ hV
          rw [h60] at e60
          refine runs_val (v := .int .i64 ta) (w' := w) ?_ ⟨Below.refl _ _, rfl⟩
          go_simp
        case r8_9o3 =>
          intro vs w hb hV
          rw [if_pos (by kernel_rfl)]
          generalize hρ : rho _ _ _ vs = ρ
          have e3 : ρ (.tmp 3) = .pointer (some ⟨gx, 0, none⟩) := by rw [← hρ]; kernel_rfl
          clear hρ hV
          refine runs_val (v := .pointer (some ⟨gx, 2, none⟩)) (w' := w) ?_ ⟨Below.refl _ _, rfl⟩
          go_simp <;> (first | exact IntWalk.u64_in _ (by omega) | exact IntWalk.u32_in _ (by omega) | exact IntWalk.u16_in _ (by omega) | exact IntWalk.u8_in _ (by omega) | exact IntWalk.i64_in _ (by omega) | skip)
        case r8_9o4 =>
          intro vs w hb hV
          rw [if_pos (by kernel_rfl)]
          generalize hρ : rho _ _ _ vs = ρ
          have d62 : (vs 3) = .pointer (some ⟨gx, 2, none⟩) := hV 3 (by kernel_rfl)
          have e62 : ρ (.tmp 62) = vs 3 := by rw [← hρ]; kernel_rfl
          rw [d62] at e62; clear d62
          clear hρ hV
          have c2 := pw_cell_below hb (blk_cell HX.out 2)
          refine runs_val (v := .slice A n c) (w' := w) ?_ ⟨Below.refl _ _, rfl⟩
          go_simp
        case r8_9o5 =>
          intro vs w hb hV
          rw [if_pos (by kernel_rfl)]
          generalize hρ : rho _ _ _ vs = ρ
          have d63 : (vs 4) = .slice A n c := hV 4 (by kernel_rfl)
          have e63 : ρ (.tmp 63) = vs 4 := by rw [← hρ]; kernel_rfl
          rw [d63] at e63; clear d63
          clear hρ hV
          refine runs_val (v := .int .i64 n) (w' := w) ?_ ⟨Below.refl _ _, rfl⟩
          go_simp <;> (first | exact IntWalk.u64_in _ (by omega) | exact IntWalk.u32_in _ (by omega) | exact IntWalk.u16_in _ (by omega) | exact IntWalk.u8_in _ (by omega) | exact IntWalk.i64_in _ (by omega) | skip)
        case r8_9o6 =>
          intro vs w hb hV
          rw [if_pos (by kernel_rfl)]
          generalize hρ : rho _ _ _ vs = ρ
          have d61 : (vs 2) = .int .i64 ta := hV 2 (by kernel_rfl)
          have e61 : ρ (.tmp 61) = vs 2 := by rw [← hρ]; kernel_rfl
          rw [d61] at e61; clear d61
          have d64 : (vs 5) = .int .i64 n := hV 5 (by kernel_rfl)
          have e64 : ρ (.tmp 64) = vs 5 := by rw [← hρ]; kernel_rfl
          rw [d64] at e64; clear d64
          clear hρ hV
          refine runs_val (v := .int .i64 ((ta : Int) + (n : Int))) (w' := w) ?_ ⟨Below.refl _ _, rfl⟩
          go_simp <;> (first | exact IntWalk.u64_in _ (by omega) | exact IntWalk.u32_in _ (by omega) | exact IntWalk.u16_in _ (by omega) | exact IntWalk.u8_in _ (by omega) | exact IntWalk.i64_in _ (by omega) | skip)
        case r8_9o7 =>
          intro vs w hb hV
          rw [if_pos (by kernel_rfl)]
          generalize hρ : rho _ _ _ vs = ρ
          have d65 : (vs 6) = .int .i64 ((ta : Int) + (n : Int)) := hV 6 (by kernel_rfl)
          have e65 : ρ (.tmp 65) = vs 6 := by rw [← hρ]; kernel_rfl
          rw [d65] at e65; clear d65
          have econ : ∀ v : Value, ρ (.const v) = v := fun v => by rw [← hρ]; rfl
          clear hρ hV
          refine runs_val (v := .bool false) (w' := w) ?_ ⟨Below.refl _ _, rfl⟩
          go_simp <;> (first | exact IntWalk.u64_in _ (by omega) | exact IntWalk.u32_in _ (by omega) | exact IntWalk.u16_in _ (by omega) | exact IntWalk.u8_in _ (by omega) | exact IntWalk.i64_in _ (by omega) | skip)
        case r8_9o8 =>
          intro vs w hb hV
          rw [if_pos (by kernel_rfl)]
          generalize hρ : rho _ _ _ vs = ρ
          have d66 : (vs 7) = .bool false := hV 7 (by kernel_rfl)
          have e66 : ρ (.tmp 66) = vs 7 := by rw [← hρ]; kernel_rfl
          rw [d66] at e66; clear d66
          clear hρ hV
          refine runs_val (v := .bool false) (w' := w) ?_ ⟨Below.refl _ _, rfl⟩
          go_simp <;> (first | exact IntWalk.u64_in _ (by omega) | exact IntWalk.u32_in _ (by omega) | exact IntWalk.u16_in _ (by omega) | exact IntWalk.u8_in _ (by omega) | exact IntWalk.i64_in _ (by omega) | skip)
        case r8_9e =>
          intro vs V2 hb2 hV
          have d59 : (vs 0) = .pointer (some ⟨g, 0, none⟩) := hV 0 (Nat.le_of_ble_eq_true rfl)
          have d60 : (fun (w : World) (v : Value) => ∃ A3 c3, v = Value.slice A3 ta c3) V2 (vs 1) := hV 1 (Nat.le_of_ble_eq_true rfl)
          have d61 : (vs 2) = .int .i64 ta := hV 2 (Nat.le_of_ble_eq_true rfl)
          have d62 : (vs 3) = .pointer (some ⟨gx, 2, none⟩) := hV 3 (Nat.le_of_ble_eq_true rfl)
          have d63 : (vs 4) = .slice A n c := hV 4 (Nat.le_of_ble_eq_true rfl)
          have d64 : (vs 5) = .int .i64 n := hV 5 (Nat.le_of_ble_eq_true rfl)
          have d65 : (vs 6) = .int .i64 ((ta : Int) + (n : Int)) := hV 6 (Nat.le_of_ble_eq_true rfl)
          have d66 : (vs 7) = .bool false := hV 7 (Nat.le_of_ble_eq_true rfl)
          have d58 : (vs 8) = .bool false := hV 8 (Nat.le_of_ble_eq_true rfl)
          clear hV
          simp only [putAll]
          rw [d59, d61, d62, d63, d64, d65, d66, d58]
          clear d59 d61 d62 d63 d64 d65 d66 d58
          generalize vs 1 = v60 at *
          clear vs
          simp only [Act.put, List.setIfInBounds_toArray, List.set_cons_zero, List.set_cons_succ]
          have HK2 := Aside0.mk (HK.out.below hb2)
          have HB2 := Aside0.mk (below_step HB0.out hb2)
          have HQ2 := Aside0.mk (Kd.R_below HQ.out hb2)
          have HX2 := Aside0.mk (blk_below HX.out hb2)
          have z0 := blk_cell HK2.out.1 0
          have z1 := blk_cell HK2.out.1 1
          have y0 := blk_frozen HK2.out.1 0
          have y1 := blk_frozen HK2.out.1 1
          have b0 := blk_cell HX2.out 0
          have b1 := blk_cell HX2.out 1
          have b2 := blk_cell HX2.out 2
          have za0 := blk_cell (blk_alloc HK2.out.1 (.cells #[.bool false, .bool true, .slice A n c] 49)) 0
          have HS2 := Aside0.mk (show gx < V2.heap.size from blk_lt HX2.out)
          obtain ⟨A3, c3, hv60⟩ := d60
          subst hv60
          clear hb2 c0 c1
          go_wp2_with fail
          go_region_law (first | (refine Kd.R_append_rows_step kP (Rr := fun y cs => y = ⟨false, true, q⟩ ∧ cs = [.bool false, .bool true, .slice A n c]) (w0 := V2) base ?aW (.tmp 81) (.tmp 83) 43 49 (.agg #[(.bool false), (.bool false), (.slice none 0 0)]) 32 rfl Try.underlying43 info49' rfl (by decide) (by omega) (.slice Q m d) L [⟨false, true, q⟩] (some ⟨V2.heap.size, 0, none⟩) 1 1 (fun b => b ≠ g ∧ OK b) (fun b => (b ≠ g ∧ OK b) ∧ some b ≠ (Value.slice Q m d).ownBlock) rfl rfl ?aO ?aR ?aM (fun _ h => h) ?aF ?aB ?aS ?aL ?_; (case aW => rfl); (case aO => (repeat (first | exact Kd.R_below HK2.out.2 (below_alloc (Below.refl _ _) _) | apply Kd.R_drew))); (case aR => exact one_piece (blk_new V2 (.cells #[.bool false, .bool true, .slice A n c] 49))); (case aM => (rintro y cs ⟨rfl, rfl⟩; refine kP_mkM _ _ _ ⟨false, true, q⟩ (Kd.R_mono (ok := fun b => b ≠ g ∧ OK b ∧ some b ≠ (Value.slice Q m d).ownBlock) ?_ (fun k hk => ⟨⟨hk.1, hk.2.1⟩, hk.2.2⟩)); (repeat (first | exact Kd.R_below HQ2.out (below_alloc (Below.refl _ _) _) | apply Kd.R_drew)))); (case aF => (intro k hk; have h9 : V2.heap.size + 1 ≤ k := (by simpa using hk); have h8 := HS2.out; have h7 := HGX.out; exact ⟨by omega, HOK.out k (by omega)⟩)); (case aB => (repeat (first | apply below_drew1 | exact (Below.refl base V2).alloc (Nat.le_trans HBG.out (by have := HS2.out; omega)) _))); (case aS => exact Nat.le_trans HBG.out (Nat.le_of_lt (blk_lt (blk_alloc HK2.out.1 (.cells #[.bool false, .bool true, .slice A n c] 49))))); (case aL => (rw [HM.out]; omega)); intro v1 w1 ho hb hg hat; obtain ⟨Q1, d1, hv1⟩ := Kd.R_slice ho; obtain ⟨ll, hll⟩ : ∃ ll, (L ++ [(⟨false, true, q⟩ : Pc)]).length = ll := ⟨_, rfl⟩; rw [hll] at hv1; clear hll; subst hv1; have hw1 := blk_grown hg (blk_alloc HK2.out.1 (.cells #[.bool false, .bool true, .slice A n c] 49)) (fun e => (HK2.out.2.1 _ e.symm).1 rfl); have hwb := blk_grown hg (blk_alloc HX2.out (.cells #[.bool false, .bool true, .slice A n c] 49)) (fun e => HOWN.out e.symm); have z3 := blk_cell hwb 1; have u0 := blk_cell hw1 0; have u1 := blk_cell hw1 1; have w0 := blk_frozen hw1 0; have w1' := blk_frozen hw1 1; have HO1 := Aside0.mk ho; have HG1 := Aside0.mk hg; have HB1 := Aside0.mk hb; have HW1 := Aside0.mk hw1; clear ho hb hg hat hw1 hwb))
          all_goals go_wp2_with fail
          all_goals
            refine (refheld_any g Q1 ll d1 (L ++ [⟨false, true, q⟩]) false _ ?k1 ?k2 ?k3 HLD.out).mono ?_
            case k1 => exact blk_set (blk_set HW1.out 0 _) 1 _
            case k2 =>
              refine (R_C (base := base) (ok := fun b => b ≠ g ∧ OK b) (c := d1) (e := 49) ?_).2.2
              repeat (first | with_reducible refine Kd.R_far ?_ (fun k h => h.1) _ | with_reducible apply Kd.R_drew | with_reducible exact HO1.out)
            case k3 => exact (R_C HO1.out).2.1
            rintro e w7 ⟨vo, rfl, hR, hb7⟩
            have HK7 := Aside0.mk (blk_below (blk_set (blk_set HW1.out 0 (.slice Q1 ll d1)) 1 (.bool false)) hb7)
            have t0 := blk_cell HK7.out 0
            have t1 := blk_frozen HK7.out 0
            obtain ⟨Qo, dO, hvo⟩ := Kd.R_slice hR
            obtain ⟨lo, hlo⟩ : ∃ lo, (allD (L ++ [⟨false, true, q⟩])).length = lo := ⟨_, rfl⟩
            rw [hlo] at hvo
            clear hlo
            subst hvo
            have HR7 := Aside0.mk hR
            have HB7 := Aside0.mk hb7
            clear hR hb7
            go_wp2_with fail
            go_ret3
            refine ⟨.slice Qo lo dO, rfl, ?_, .slice none 0 0, ⟨?_, Kd.R_nil _ _ _ _ _⟩, ?_, ?_⟩
            · have hg6 := blk_lt (blk_set (blk_set HW1.out 0 (.slice Q1 ll d1)) 1 (.bool false))
              have r1 := Kd.R_mono (Kd.R_bound HR7.out) (ok' := fun k => g < k) (fun k hk => Nat.lt_of_lt_of_le hg6 hk.2.1)
              have r2 := Kd.R_far (p := ⟨g, 0, none⟩) r1 (fun k hk => Nat.ne_of_gt hk) (.slice none 0 0)
              exact Kd.R_mono (Kd.R_lower r2 (Nat.le_trans HBG.out (Nat.le_of_lt hg6))) (fun _ _ => trivial)
            · exact blk_set HK7.out 0 _
            · refine keep_below HB2.out (keep_below (below_alloc (Below.refl _ _) (.cells #[.bool false, .bool true, .slice A n c] 49)) (KeepBut.set_ (keep_then ?_ HB7.out) _ _))
              repeat (first | with_reducible refine KeepBut.set_ ?_ _ _ | with_reducible refine keep_drew ?_ | exact KeepBut.of_grown HG1.out g)
            · have hg6 := blk_lt (blk_set (blk_set HW1.out 0 (.slice Q1 ll d1)) 1 (.bool false))
              refine (HB2.out.mono (Nat.le_trans HBG.out (Nat.le_of_lt HGL.out))).trans (Below.setCell (Below.trans ?_ (HB7.out.mono (Nat.le_trans HBG.out (Nat.le_of_lt hg6)))) HBG.out _)
              repeat (first | with_reducible refine Below.setCell ?_ HBG.out _ | with_reducible refine Below.drew ?_ | with_reducible exact HB1.out)
    · cases h
end Go.Proofs.Ytmhninlndjcikaa
