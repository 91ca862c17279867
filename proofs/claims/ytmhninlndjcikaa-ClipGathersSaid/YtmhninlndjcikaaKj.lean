/- The document's basket: Put, what has a form. -/
import Derived.Test.YtmhninlndjcikaaKi
import Derived.Test.YtmhninlndjcikaaK4
namespace Go.Proofs.Ytmhninlndjcikaa
open Go.RowKit Go.Proofs.YtmhninlndjcikaaW.PrintWords Go.Proofs.YtmhninlndjcikaaW.PrintLast Go.Proofs.YtmhninlndjcikaaW.PrintMore
set_option linter.unusedVariables false
set_option linter.unusedSimpArgs false

theorem keep_then {w w1 w2 : World} {g : Nat} {row : Option Nat} (h : KeepBut w w1 g row) (k : Below w1.heap.size w1 w2) : KeepBut w w2 g row :=
  ⟨Nat.le_trans h.1 k.size, fun i hi hg hr => (k.block i (Nat.lt_of_lt_of_le hi h.1)).trans (h.2 i hi hg hr)⟩
/-- A piece that lies in a block of its own. -/
theorem one_piece {w : World} {g : Nat} {t : TypeId} {fr : Nat × Nat} {x : Pc} {a b c : Value} (h : w.heap[g]? = some (.cells #[a, b, c] t fr)) : ReadsRow (fun y cs => y = x ∧ cs = [a, b, c]) kP.sz w (some ⟨g, 0, none⟩) 1 [x] := by
  refine ⟨rfl, by simp, fun _ => ⟨_, rfl, fun j p hj => ?_⟩⟩
  have hj0 : j = 0 := by
    have := (List.getElem?_eq_some_iff.1 hj).1
    simp at this; exact this
  subst hj0
  obtain rfl : x = p := by simpa using hj
  refine ⟨[a, b, c], rfl, ⟨rfl, rfl⟩, fun i u hu => ?_⟩
  show w.cell? ((⟨g, 0, none⟩ : Addr).add (0 * 3 + i)) = _
  rw [add_plain, Nat.zero_mul, Nat.zero_add, cell_of_row w g i _ t fr h]
  simpa using hu
theorem info49' : (Try.prog.info? 49).map (fun i => (i.zero, i.size, i.bytes)) = some (some (.agg #[(.bool false), (.bool false), (.slice none 0 0)]), 3, 32) := by kernel_rfl

set_option maxRecDepth 100000 in
set_option maxHeartbeats 8000000 in
theorem refput_long (base g : Nat) (OK : Nat → Prop) (L : List Pc) (sk f lb : Bool) (v : Value) (A : Option Addr) (n c : Nat) (w : World) (hk : Rb w base g OK L sk v) (hb : base ≤ g) (hp : (allD L).length ≤ 1024) (hs : sk = true → f = true) (hf : (f = true ∧ L = []) ∨ (f = false ∧ L ≠ [])) (hn : n ≤ 64) (hl : lb = false → n = 64) (hlong : 1024 < (allD L).length + n) :
    Calls Try.prog 17 #[.pointer (some ⟨g, 0, none⟩), .agg #[.bool f, .bool lb, .slice A n c]] w fun e w' => e = .returned (.tuple #[.slice none 0 0, .bool false, .int .i64 4]) ∧ RPut w w' base g OK v [] true (.slice none 0 0) := by
  obtain ⟨Q, d, hv⟩ := Kd.R_slice hk.2
  subst hv
  obtain ⟨m, hm⟩ : ∃ m, L.length = m := ⟨_, rfl⟩
  rw [hm] at hk ⊢
  have hB0 := below_alloc (Below.refl w.heap.size w) (.cells #[.bool f, .bool lb, .slice A n c] 49)
  have HB0 := Aside0.mk hB0
  have HK := Aside0.mk (hk.below hB0)
  have c0 := blk_cell HK.out.1 0
  have c1 := blk_cell HK.out.1 1
  have HBG := Aside0.mk hb
  have HGL := Aside0.mk (blk_lt hk.1)
  have HX := Aside0.mk (blk_new w (.cells #[.bool f, .bool lb, .slice A n c] 49))
  have hf2 : (f = true ∧ m = 0) ∨ (f = false ∧ 0 < m) := by
    rcases hf with ⟨h1, h2⟩ | ⟨h1, h2⟩
    · exact .inl ⟨h1, by rw [← hm, h2]; rfl⟩
    · refine .inr ⟨h1, ?_⟩
      cases L with
      | nil => exact absurd rfl h2
      | cons x l => rw [← hm]; simp
  have hsf : sk = false ∨ (sk = true ∧ f = true) := by
    cases sk
    · exact .inl rfl
    · exact .inr ⟨rfl, hs rfl⟩
  obtain ⟨ta, hta⟩ : ∃ ta, (allD L).length = ta := ⟨_, rfl⟩
  have HTA := Aside0.mk hta
  rw [hta] at hlong hp
  have h5 : (1024 : Int) < (ta : Int) + (n : Int) := by omega
  have d4 : decide ((1024 : Int) < (ta : Int) + (n : Int)) = true := decide_eq_true h5
  have d1 : decide (64 < (n : Int)) = false := decide_eq_false (by omega)
  have h3 : (decide ((n : Int) < 64) = false) ∨ (decide ((n : Int) < 64) = true ∧ lb = true) := by
    by_cases e : n < 64
    · refine .inr ⟨decide_eq_true (by omega), ?_⟩
      cases lb
      · have := hl rfl; omega
      · rfl
    · exact .inl (decide_eq_false (by omega))
  clear hk hB0 hb hs hf hl hm hta
  rcases hf2 with ⟨rfl, rfl⟩ | ⟨rfl, h2⟩
  all_goals
    rcases hsf with rfl | ⟨rfl, h⟩
    all_goals first
      | (cases h; done)
      | skip
  all_goals
    rcases h3 with h3 | ⟨h3, rfl⟩
  all_goals
    go_enter Try.func17, Try.ntmps17
    go_wp2_with fail
    generalize hV : w.alloc (.cells #[.bool _, .bool _, .slice A n c] 49) = V at *
    obtain ⟨gx, hgx⟩ : ∃ gx, gx = w.heap.size := ⟨_, rfl⟩
    rw [← hgx]
    rw [← hgx] at HX
    have HGX := Aside0.mk hgx
    have HV := Aside0.mk hV
    clear hgx hV
    try go_frame
    refine region_grown (W := V)
      [fun (w : World) (v : Value) => v = .pointer (some ⟨g, 0, none⟩),
   fun (w : World) (v : Value) => ∃ A3 c3, v = Value.slice A3 ta c3,
   fun (w : World) (v : Value) => v = .int .i64 ta,
   fun (w : World) (v : Value) => v = .pointer (some ⟨gx, 2, none⟩),
   fun (w : World) (v : Value) => v = .slice A n c,
   fun (w : World) (v : Value) => v = .int .i64 n,
   fun (w : World) (v : Value) => v = .int .i64 ((ta : Int) + (n : Int)),
   fun (w : World) (v : Value) => v = .bool true,
   fun (w : World) (v : Value) => v = .bool true]
      (fun j =>  none)
      [(0, some 59), (1, some 60), (2, some 61), (3, some 62), (4, some 63), (5, some 64), (6, some 65), (7, some 66), (8, some 58)]
      []
      (by kernel_rfl) (by kernel_rfl) (by kernel_rfl) (by kernel_rfl) ?r8_1g ?r8_1s ⟨?r8_1o0, ?r8_1o1, ?r8_1o2, ?r8_1o3, ?r8_1o4, ?r8_1o5, ?r8_1o6, ?r8_1o7, ?r8_1o8, trivial⟩ ?r8_1e
    case r8_1g =>
      intro j hj; cases hj
    case r8_1s =>
      refine ⟨(fun w w' v hb h => h), (fun w w' v hb h => h), (fun w w' v hb h => h), (fun w w' v hb h => h), (fun w w' v hb h => h), (fun w w' v hb h => h), (fun w w' v hb h => h), (fun w w' v hb h => h), (fun w w' v hb h => h), trivial⟩
    case r8_1o0 =>
      intro vs w hb hV
      rw [if_pos (by kernel_rfl)]
      generalize hρ : rho _ _ _ vs = ρ
      have e0 : ρ (.tmp 0) = .pointer (some ⟨g, 0, none⟩) := by rw [← hρ]; kernel_rfl
      clear hρ hV
      refine runs_val (v := .pointer (some ⟨g, 0, none⟩)) (w' := w) ?_ ⟨Below.refl _ _, rfl⟩
      go_simp <;> (first | exact IntWalk.u64_in _ (by omega) | exact IntWalk.u32_in _ (by omega) | exact IntWalk.u16_in _ (by omega) | exact IntWalk.u8_in _ (by omega) | exact IntWalk.i64_in _ (by omega) | skip)
    case r8_1o1 =>
      intro vs w hb hV
      rw [if_pos (by kernel_rfl)]
      generalize hρ : rho _ _ _ vs = ρ
      have d59 : (vs 0) = .pointer (some ⟨g, 0, none⟩) := hV 0 (by kernel_rfl)
      have e59 : ρ (.tmp 59) = vs 0 := by rw [← hρ]; kernel_rfl
      rw [d59] at e59; clear d59
      have ef19 : ρ (.func 19) = .func (.func 19) #[] #[] := by rw [← hρ]; rfl
      clear hρ hV
      refine runs_call (f := 19) (args := #[.pointer (some ⟨g, 0, none⟩)]) (w' := w) ?_ ?_
      · go_simp
      · refine (refheld_any g Q _ d L _ _ (blk_below HK.out.1 hb) (Kd.C_below (R_C HK.out.2).2.2 hb) (R_C HK.out.2).2.1 (by rw [HTA.out]; omega)).mono ?_
        rintro e w5 ⟨v5, rfl, hR, hb5⟩
        obtain ⟨A3, c3, e5⟩ := Kd.R_slice hR
        exact ⟨v5, rfl, hb5, A3, c3, by rw [e5, HTA.out]⟩
    case r8_1o2 =>
      intro vs w hb hV
      rw [if_pos (by kernel_rfl)]
      generalize hρ : rho _ _ _ vs = ρ
      have d60 : (fun (w : World) (v : Value) => ∃ A3 c3, v = Value.slice A3 ta c3) w (vs 1) := hV 1 (by kernel_rfl)
      have e60 : ρ (.tmp 60) = vs 1 := by rw [← hρ]; kernel_rfl
      obtain ⟨A3, c3, h60⟩ := d60
      clear hρ hV
      rw [h60] at e60
      refine runs_val (v := .int .i64 ta) (w' := w) ?_ ⟨Below.refl _ _, rfl⟩
      go_simp
    case r8_1o3 =>
      intro vs w hb hV
      rw [if_pos (by kernel_rfl)]
      generalize hρ : rho _ _ _ vs = ρ
      have e3 : ρ (.tmp 3) = .pointer (some ⟨gx, 0, none⟩) := by rw [← hρ]; kernel_rfl
      clear hρ hV
      refine runs_val (v := .pointer (some ⟨gx, 2, none⟩)) (w' := w) ?_ ⟨Below.refl _ _, rfl⟩
      go_simp <;> (first | exact IntWalk.u64_in _ (by omega) | exact IntWalk.u32_in _ (by omega) | exact IntWalk.u16_in _ (by omega) | exact IntWalk.u8_in _ (by omega) | exact IntWalk.i64_in _ (by omega) | skip)
    case r8_1o4 =>
      intro vs w hb hV
      rw [if_pos (by kernel_rfl)]
      generalize hρ : rho _ _ _ vs = ρ
      have d62 : (vs 3) = .pointer (some ⟨gx, 2, none⟩) := hV 3 (by kernel_rfl)
      have e62 : ρ (.tmp 62) = vs 3 := by rw [← hρ]; kernel_rfl
      rw [d62] at e62; clear d62
      clear hρ hV
      have c2 := pw_cell_below hb (blk_cell HX.out 2)
      refine runs_val (v := .slice A n c) (w' := w) ?_ ⟨Below.refl _ _, rfl⟩
      go_simp
    case r8_1o5 =>
      intro vs w hb hV
      rw [if_pos (by kernel_rfl)]
      generalize hρ : rho _ _ _ vs = ρ
      have d63 : (vs 4) = .slice A n c := hV 4 (by kernel_rfl)
      have e63 : ρ (.tmp 63) = vs 4 := by rw [← hρ]; kernel_rfl
      rw [d63] at e63; clear d63
      clear hρ hV
      refine runs_val (v := .int .i64 n) (w' := w) ?_ ⟨Below.refl _ _, rfl⟩
      go_simp <;> (first | exact IntWalk.u64_in _ (by omega) | exact IntWalk.u32_in _ (by omega) | exact IntWalk.u16_in _ (by omega) | exact IntWalk.u8_in _ (by omega) | exact IntWalk.i64_in _ (by omega) | skip)
    case r8_1o6 =>
      intro vs w hb hV
      rw [if_pos (by kernel_rfl)]
      generalize hρ : rho _ _ _ vs = ρ
      have d61 : (vs 2) = .int .i64 ta := hV 2 (by kernel_rfl)
      have e61 : ρ (.tmp 61) = vs 2 := by rw [← hρ]; kernel_rfl
      rw [d61] at e61; clear d61
      have d64 : (vs 5) = .int .i64 n := hV 5 (by kernel_rfl)
      have e64 : ρ (.tmp 64) = vs 5 := by rw [← hρ]; kernel_rfl
      rw [d64] at e64; clear d64
      clear hρ hV
      refine runs_val (v := .int .i64 ((ta : Int) + (n : Int))) (w' := w) ?_ ⟨Below.refl _ _, rfl⟩
      go_simp <;> (first | exact IntWalk.u64_in _ (by omega) | exact IntWalk.u32_in _ (by omega) | exact IntWalk.u16_in _ (by omega) | exact IntWalk.u8_in _ (by omega) | exact IntWalk.i64_in _ (by omega) | skip)
    case r8_1o7 =>
      intro vs w hb hV
      rw [if_pos (by kernel_rfl)]
      generalize hρ : rho _ _ _ vs = ρ
      have d65 : (vs 6) = .int .i64 ((ta : Int) + (n : Int)) := hV 6 (by kernel_rfl)
      have e65 : ρ (.tmp 65) = vs 6 := by rw [← hρ]; kernel_rfl
      rw [d65] at e65; clear d65
      have econ : ∀ v : Value, ρ (.const v) = v := fun v => by rw [← hρ]; rfl
      clear hρ hV
      refine runs_val (v := .bool true) (w' := w) ?_ ⟨Below.refl _ _, rfl⟩
      go_simp <;> (first | exact IntWalk.u64_in _ (by omega) | exact IntWalk.u32_in _ (by omega) | exact IntWalk.u16_in _ (by omega) | exact IntWalk.u8_in _ (by omega) | exact IntWalk.i64_in _ (by omega) | skip)
    case r8_1o8 =>
      intro vs w hb hV
      rw [if_pos (by kernel_rfl)]
      generalize hρ : rho _ _ _ vs = ρ
      have d66 : (vs 7) = .bool true := hV 7 (by kernel_rfl)
      have e66 : ρ (.tmp 66) = vs 7 := by rw [← hρ]; kernel_rfl
      rw [d66] at e66; clear d66
      clear hρ hV
      refine runs_val (v := .bool true) (w' := w) ?_ ⟨Below.refl _ _, rfl⟩
      go_simp <;> (first | exact IntWalk.u64_in _ (by omega) | exact IntWalk.u32_in _ (by omega) | exact IntWalk.u16_in _ (by omega) | exact IntWalk.u8_in _ (by omega) | exact IntWalk.i64_in _ (by omega) | skip)
    case r8_1e =>
      intro vs V2 hb2 hV
      have d59 : (vs 0) = .pointer (some ⟨g, 0, none⟩) := hV 0 (Nat.le_of_ble_eq_true rfl)
      have d60 : (fun (w : World) (v : Value) => ∃ A3 c3, v = Value.slice A3 ta c3) V2 (vs 1) := hV 1 (Nat.le_of_ble_eq_true rfl)
      have d61 : (vs 2) = .int .i64 ta := hV 2 (Nat.le_of_ble_eq_true rfl)
      have d62 : (vs 3) = .pointer (some ⟨gx, 2, none⟩) := hV 3 (Nat.le_of_ble_eq_true rfl)
      have d63 : (vs 4) = .slice A n c := hV 4 (Nat.le_of_ble_eq_true rfl)
      have d64 : (vs 5) = .int .i64 n := hV 5 (Nat.le_of_ble_eq_true rfl)
      have d65 : (vs 6) = .int .i64 ((ta : Int) + (n : Int)) := hV 6 (Nat.le_of_ble_eq_true rfl)
      have d66 : (vs 7) = .bool true := hV 7 (Nat.le_of_ble_eq_true rfl)
      have d58 : (vs 8) = .bool true := hV 8 (Nat.le_of_ble_eq_true rfl)
      clear hV
      simp only [putAll]
      rw [d59, d61, d62, d63, d64, d65, d66, d58]
      clear d59 d61 d62 d63 d64 d65 d66 d58
      generalize vs 1 = v60 at *
      clear vs
      simp only [Act.put, List.setIfInBounds_toArray, List.set_cons_zero, List.set_cons_succ]
      have HK2 := Aside0.mk (HK.out.below hb2)
      have HB2 := Aside0.mk (below_step HB0.out hb2)
      have z0 := blk_cell HK2.out.1 0
      have z1 := blk_cell HK2.out.1 1
      have y0 := blk_frozen HK2.out.1 0
      have y1 := blk_frozen HK2.out.1 1
      obtain ⟨A3, c3, hv60⟩ := d60
      subst hv60
      clear hb2 c0 c1
      go_wp2_with fail
      go_ret3
      refine ⟨rfl, ⟨two_set _ _ _ _ _ HK2.out.1 _ _, Kd.R_nil _ _ _ _ _⟩, keep_below HB2.out (((KeepBut.refl _ g _).set_ 0 _).set_ 1 _), ?_⟩
      exact ((HB2.out.mono (Nat.le_trans HBG.out (Nat.le_of_lt HGL.out))).setCell HBG.out _).setCell HBG.out _
end Go.Proofs.Ytmhninlndjcikaa
