/- The parts of this proof, one behind the other: contracts of the functions, plain laws, the walk. -/
import Derived.Test.YticpjidcgaaldaaMsac
import Derived.Deep.DeepCutAuto
namespace Go.Proofs.Yticpjidcgaaldaa
open Go.RowKit Go.Proofs.YticpjidcgaaldaaW.PrintWords Go.Proofs.YticpjidcgaaldaaW.PrintLast Go.Proofs.YticpjidcgaaldaaW.PrintMore
set_option linter.unusedVariables false
set_option linter.unusedSimpArgs false

theorem zero_rmsg (w : World) : (zeroValue 39).run Try.prog w = .ok (.agg #[.int .u8 0, .int .u32 0, .int .u32 0, .int .u32 0, .int .u32 0, .slice none 0 0, .slice none 0 0]) w := by kernel_rfl
theorem MrC_zero (w : World) (k t m : Int) : MrC w k t m 0 0 [] [] (.agg #[.int .u8 k, .int .u32 t, .int .u32 m, .int .u32 0, .int .u32 0, .slice none 0 0, .slice none 0 0]) := ⟨none, 0, none, 0, rfl, Nat.le_refl _, Nat.le_refl _, Kd.C_nil _ _, Kd.C_nil _ _⟩
def RReadM (q : List Int) (w' : World) (e : Ending) : Prop := ∃ v, e = .returned (.tuple #[v, .bool (readR q).ok]) ∧ MrC w' (readR q).k (readR q).t (readR q).m (readR q).tk (readR q).hs (readR q).P ((readR q).C.map toR) v
theorem RReadM.of {q : List Int} {r : MRes} {w' : World} {v : Value} (hq : readR q = r) (hv : MrC w' r.k r.t r.m r.tk r.hs r.P (r.C.map toR) v) : RReadM q w' (.returned (.tuple #[v, .bool r.ok])) := by
  subst hq; exact ⟨v, rfl, hv⟩
theorem RfR.msg {b : Nat} {w : World} {k t m tk hs : Int} {P : List Int} {R : List S97} {x y : Value} (h : RfR b w tk hs P R (.agg #[.int .u32 tk, .int .u32 hs, x, y])) : MrC w k t m tk hs P R (.agg #[.int .u8 k, .int .u32 t, .int .u32 m, .int .u32 tk, .int .u32 hs, x, y]) := by
  obtain ⟨A, c, A2, c2, he, h1, h2, h3, h4⟩ := h
  simp only [Value.agg.injEq, Array.mk.injEq, List.cons.injEq, and_true, true_and] at he
  obtain ⟨rfl, rfl⟩ := he
  exact ⟨A, c, A2, c2, rfl, h1, h2, (Ru_C h3).2.2, (Ru_C h4).2.2⟩
theorem Hp.rfR {B : Nat} {w0 W W1 : World} {L : List (Nat × Obj)} {F : List (World → Prop)} {tk hs : Int} {P : List Int} {R : List S97} {v : Value} (h : Hp B w0 W L F) (hb : Below W.heap.size W W1) (hr : RfR W.heap.size W1 tk hs P R v) : Hp B w0 W1 L ((fun w => RfR B w tk hs P R v) :: F) := by
  obtain ⟨A, c, A2, c2, e, h1, h2, h3, h4⟩ := hr
  have k1 := h.row hb h3
  have k2 := h.row hb h4
  refine ⟨k1.1, k1.2.1, k1.2.2.1, k1.2.2.2.1, fun χ hχ W' ho => ?_⟩
  rcases List.mem_cons.1 hχ with rfl | hχ
  · exact ⟨A, c, A2, c2, e, h1, h2, k1.2.2.2.2 _ List.mem_cons_self W' ho, k2.2.2.2.2 _ List.mem_cons_self W' ho⟩
  · exact k1.2.2.2.2 χ (List.mem_cons_of_mem _ hχ) W' ho
set_option maxRecDepth 100000 in
set_option maxHeartbeats 16000000 in
theorem rread_any (A : Option Addr) (n c : Nat) (q : List Int) (w00 : World) (hq : (Kd.int .u8).C w00 A n q) (hc : n ≤ c) (hn : n ≤ 100000) (hb : Bytes q) :
    Calls Try.prog 22 #[.slice A n c] w00 fun e w' => RReadM q w' e ∧ Below w00.heap.size w00 w' := by
  have HQL := Aside0.mk hq.1
  have HC := Aside0.mk (And.intro hc hn)
  have HBQ := Aside0.mk hb
  have HF : Aside0 (∀ z, Below w00.heap.size w00 z → (Kd.int .u8).C z A n q) := ⟨fun z hz => Kd.C_below hq hz⟩
  obtain ⟨B, hB⟩ : ∃ B, w00.heap.size = B := ⟨_, rfl⟩
  have H0 := Aside0.mk ((Hp.start w00).allocAt (.cells #[.int .u8 0, .int .u32 0, .int .u32 0, .int .u32 0, .int .u32 0, .slice none 0 0, .slice none 0 0] 39) B hB)
  rw [hB] at HF H0
  rw [hB]
  have HB := Aside0.mk hB
  have hz7 := zero_rmsg
  clear hq hc hn hb
  go_enter Try.func22, Try.ntmps22
  by_cases h0 : n = 0
  · subst h0
    have HRQ : Aside0 (readR q = badR) := ⟨by rw [List.length_eq_zero_iff.1 HQL.out]; rfl⟩
    go_wp2_with (first | (refine wpList_store_row rfl 39 (.tmp 2) (.tmp 10) rfl B #[.int .u8 0, .int .u32 0, .int .u32 0, .int .u32 0, .int .u32 0, .slice none 0 0, .slice none 0 0] rfl rfl 39 _ (H0.out.get (i := 0) rfl) (rmsg_info _ _ _ _ _ _ _) rfl (by simp [Value.oneCell']) ?_))
    have H9 := Aside0.mk (H0.out.setRow (i := 0) rfl #[.int .u8 0, .int .u32 0, .int .u32 0, .int .u32 0, .int .u32 0, .slice none 0 0, .slice none 0 0])
    refine bodyPost_ret (results_ct rfl _ _ B _ #[.int .u8 0, .int .u32 0, .int .u32 0, .int .u32 0, .int .u32 0, .slice none 0 0, .slice none 0 0] (0, 0) _ rfl (H9.out.get (i := 0) rfl) Try.underlying39 rfl (rmsg_info _ _ _ _ _ _ _)) rfl ?_
    exact ⟨RReadM.of HRQ.out (MrC_zero _ 0 0 0), H9.out.bel⟩
  · have h0n : 1 ≤ n := by omega
    have h0i : ((n : Int) == 0) = false := by simpa using h0
    have h0j : ¬ (n : Int) = 0 := by omega
    obtain ⟨x, l1, rfl⟩ : ∃ x l, q = x :: l := by
      cases q with
      | nil => exact absurd HQL.out.symm (by simpa using h0)
      | cons x l => exact ⟨x, l, rfl⟩
    have hl1 : l1.length + 1 = n := by have := HQL.out; simpa using this
    have HL1 := Aside0.mk hl1
    have HX : Aside0 (0 ≤ x ∧ x < 256) := ⟨HBQ.out x List.mem_cons_self⟩
    have HBL : Aside0 (Bytes l1) := ⟨fun y hy => HBQ.out y (List.mem_cons_of_mem _ hy)⟩
    obtain ⟨ad, hA, cx⟩ := int_at (HF.out _ H0.out.bel) 0 (by simp)
    replace cx : (w00.alloc (.cells #[.int .u8 0, .int .u32 0, .int .u32 0, .int .u32 0, .int .u32 0, .slice none 0 0, .slice none 0 0] 39)).cell? ad = some (.int .u8 x) := by simpa [Addr.add] using cx
    subst hA
    have hx0 := HX.out.1
    have hx1 := HX.out.2
    obtain ⟨g4, hg4⟩ : ∃ g, (w00.alloc (.cells #[.int .u8 0, .int .u32 0, .int .u32 0, .int .u32 0, .int .u32 0, .slice none 0 0, .slice none 0 0] 39)).heap.size = g := ⟨_, rfl⟩
    have H1 := Aside0.mk (H0.out.allocAt (.cells #[.int .u8 x, .int .u32 0, .int .u32 0, .int .u32 0, .int .u32 0, .slice none 0 0, .slice none 0 0] 39) g4 hg4)
    have hcx : ((w00.alloc (.cells #[.int .u8 0, .int .u32 0, .int .u32 0, .int .u32 0, .int .u32 0, .slice none 0 0, .slice none 0 0] 39)).alloc (.cells #[.int .u8 x, .int .u32 0, .int .u32 0, .int .u32 0, .int .u32 0, .slice none 0 0, .slice none 0 0] 39)).cell? ad = some (.int .u8 x) := by
      obtain ⟨ad2, hA2, cx2⟩ := int_at (HF.out _ H1.out.bel) 0 (by simp)
      obtain rfl := Option.some.inj hA2
      simpa [Addr.add] using cx2
    clear h0 hl1
    by_cases h2 : x = 2
    · subst h2
      by_cases h9 : n = 9
      · subst h9
        have HRQ : Aside0 (readR (2 :: l1) = ⟨true, 2, leN (l1.take 4), leN ((l1.drop 4).take 4), 0, 0, [], []⟩) := ⟨by rw [readR_two, if_pos (by have := HL1.out; omega)]⟩
        obtain ⟨tv, htv⟩ : ∃ t, leN (l1.take 4) = t := ⟨_, rfl⟩
        obtain ⟨mv, hmv⟩ : ∃ t, leN ((l1.drop 4).take 4) = t := ⟨_, rfl⟩
        have HTM : Aside0 ((0 ≤ tv ∧ tv < 4294967296) ∧ 0 ≤ mv ∧ mv < 4294967296) := ⟨by
          have q1 := leN4 HBL.out
          have q2 := leN4 (HBL.out.drop 4)
          unfold U32 at q1 q2
          rw [htv] at q1
          rw [hmv] at q2
          exact ⟨q1, q2⟩⟩
        rw [htv, hmv] at HRQ
        have HV := Aside0.mk (And.intro htv hmv)
        obtain ⟨A1, x1, x2⟩ := cut_lh (P := Try.prog) .u8 .i64 .i64 23 5 1 Try.underlying23 np_info (some ad) 9 c 1 5 (by omega) (by omega) HC.out.1
        have X1 : Aside0 (∀ W : World, (Instr.slice 23 (.slice (some ad) 9 c) (some (.int .i64 1)) (some (.int .i64 5)) none).run Try.prog W = .ok (.slice A1 4 (c - 1)) W) := ⟨fun W => x1 W⟩
        have Y1 : Aside0 (∀ z, Below B w00 z → (Kd.int .u8).C z A1 4 ((l1.drop 0).take 4)) := ⟨fun z hz => by have := x2 z (2 :: l1) (HF.out z hz); rw [List.drop_take] at this; exact this⟩
        clear x1 x2
        obtain ⟨A2, x1, x2⟩ := cut_lh (P := Try.prog) .u8 .i64 .i64 23 5 1 Try.underlying23 np_info (some ad) 9 c 5 9 (by omega) (by omega) HC.out.1
        have X2 : Aside0 (∀ W : World, (Instr.slice 23 (.slice (some ad) 9 c) (some (.int .i64 5)) (some (.int .i64 9)) none).run Try.prog W = .ok (.slice A2 4 (c - 5)) W) := ⟨fun W => x1 W⟩
        have Y2 : Aside0 (∀ z, Below B w00 z → (Kd.int .u8).C z A2 4 ((l1.drop 4).take 4)) := ⟨fun z hz => by have := x2 z (2 :: l1) (HF.out z hz); rw [List.drop_take] at this; exact this⟩
        clear x1 x2
        clear htv hmv
        go_wp2_with fail
        generalize (w00.alloc (.cells #[.int .u8 0, .int .u32 0, .int .u32 0, .int .u32 0, .int .u32 0, .slice none 0 0, .slice none 0 0] 39)).alloc (.cells #[.int .u8 2, .int .u32 0, .int .u32 0, .int .u32 0, .int .u32 0, .slice none 0 0, .slice none 0 0] 39) = W3 at *
        clear hg4 cx hcx
        have HW3 : Aside0 (B ≤ W3.heap.size ∧ Below B w00 W3) := ⟨H1.out.le, H1.out.bel⟩
        refine regionS (W := W3)
          [fun _ v => v = .slice (some ad) 9 c,
           fun (w : World) (v : Value) => v = .slice A1 4 (c - 1),
           fun _ v => v = .int .u64 tv,
           fun _ v => v = .int .u32 tv,
           fun _ v => v = .slice (some ad) 9 c,
           fun (w : World) (v : Value) => v = .slice A2 4 (c - 5),
           fun _ v => v = .int .u64 mv,
           fun _ v => v = .int .u32 mv,
           fun _ v => v = .pointer (some ⟨g4, 1, none⟩),
           fun _ _ => True,
           fun _ v => v = .pointer (some ⟨g4, 2, none⟩),
           fun _ _ => True]
          [9, 11]
          (fun t => match t with | 0 => fun (rs : List Value) (w : World) => Hp B w00 w [(g4, .cells #[.int .u8 2, .int .u32 0, .int .u32 0, .int .u32 0, .int .u32 0, .slice none 0 0, .slice none 0 0] 39 (0, 0)), (B, .cells #[.int .u8 0, .int .u32 0, .int .u32 0, .int .u32 0, .int .u32 0, .slice none 0 0, .slice none 0 0] 39 (0, 0))] [] | 1 => fun (rs : List Value) (w : World) => Hp B w00 w [(g4, .cells #[.int .u8 2, .int .u32 tv, .int .u32 0, .int .u32 0, .int .u32 0, .slice none 0 0, .slice none 0 0] 39 (0, 0)), (B, .cells #[.int .u8 0, .int .u32 0, .int .u32 0, .int .u32 0, .int .u32 0, .slice none 0 0, .slice none 0 0] 39 (0, 0))] [] | 2 => fun (rs : List Value) (w : World) => Hp B w00 w [(g4, .cells #[.int .u8 2, .int .u32 tv, .int .u32 mv, .int .u32 0, .int .u32 0, .slice none 0 0, .slice none 0 0] 39 (0, 0)), (B, .cells #[.int .u8 0, .int .u32 0, .int .u32 0, .int .u32 0, .int .u32 0, .slice none 0 0, .slice none 0 0] 39 (0, 0))] [] | _ => fun _ _ => False)
          (fun _ _ _ => True) (fun w => Below B w00 w ∧ B ≤ w.heap.size)
          (fun j =>  none)
          [(0, some 24), (1, some 25), (2, some 26), (3, some 27), (4, some 28), (5, some 29), (6, some 30), (7, some 31), (8, some 32), (9, none), (10, some 33), (11, none)]
          []
          (by kernel_rfl) (by kernel_rfl) (by kernel_rfl) (by kernel_rfl) (by kernel_rfl) ?z8_1c ?z8_1i ?z8_1b ?z8_1d ?z8_1g ⟨?z8_1t0, ?z8_1t1, ?z8_1t2, ?z8_1t3, ?z8_1t4, ?z8_1t5, ?z8_1t6, ?z8_1t7, ?z8_1t8, ?z8_1t9, ?z8_1t10, ?z8_1t11, trivial⟩ ⟨?z8_1o0, ?z8_1o1, ?z8_1o2, ?z8_1o3, ?z8_1o4, ?z8_1o5, ?z8_1o6, ?z8_1o7, ?z8_1o8, ?z8_1o9, ?z8_1o10, ?z8_1o11, trivial⟩ ?z8_1e
        case z8_1c => exact ⟨H1.out.drew.bel, H1.out.drew.le⟩
        case z8_1i => exact H1.out.drew
        case z8_1b => intro w w' hb h; exact ⟨h.1.trans (hb.mono h.2), Nat.le_trans h.2 hb.size⟩
        case z8_1d =>
          intro t rs w w' hb h
          match t, h with
          | 0, h => (replace h : Hp B w00 w [(g4, .cells #[.int .u8 2, .int .u32 0, .int .u32 0, .int .u32 0, .int .u32 0, .slice none 0 0, .slice none 0 0] 39 (0, 0)), (B, .cells #[.int .u8 0, .int .u32 0, .int .u32 0, .int .u32 0, .int .u32 0, .slice none 0 0, .slice none 0 0] 39 (0, 0))] [] := h); show Hp B w00 w' [(g4, .cells #[.int .u8 2, .int .u32 0, .int .u32 0, .int .u32 0, .int .u32 0, .slice none 0 0, .slice none 0 0] 39 (0, 0)), (B, .cells #[.int .u8 0, .int .u32 0, .int .u32 0, .int .u32 0, .int .u32 0, .slice none 0 0, .slice none 0 0] 39 (0, 0))] []; exact Hp.call h hb
          | 1, h => (replace h : Hp B w00 w [(g4, .cells #[.int .u8 2, .int .u32 tv, .int .u32 0, .int .u32 0, .int .u32 0, .slice none 0 0, .slice none 0 0] 39 (0, 0)), (B, .cells #[.int .u8 0, .int .u32 0, .int .u32 0, .int .u32 0, .int .u32 0, .slice none 0 0, .slice none 0 0] 39 (0, 0))] [] := h); show Hp B w00 w' [(g4, .cells #[.int .u8 2, .int .u32 tv, .int .u32 0, .int .u32 0, .int .u32 0, .slice none 0 0, .slice none 0 0] 39 (0, 0)), (B, .cells #[.int .u8 0, .int .u32 0, .int .u32 0, .int .u32 0, .int .u32 0, .slice none 0 0, .slice none 0 0] 39 (0, 0))] []; exact Hp.call h hb
          | 2, h => (replace h : Hp B w00 w [(g4, .cells #[.int .u8 2, .int .u32 tv, .int .u32 mv, .int .u32 0, .int .u32 0, .slice none 0 0, .slice none 0 0] 39 (0, 0)), (B, .cells #[.int .u8 0, .int .u32 0, .int .u32 0, .int .u32 0, .int .u32 0, .slice none 0 0, .slice none 0 0] 39 (0, 0))] [] := h); show Hp B w00 w' [(g4, .cells #[.int .u8 2, .int .u32 tv, .int .u32 mv, .int .u32 0, .int .u32 0, .slice none 0 0, .slice none 0 0] 39 (0, 0)), (B, .cells #[.int .u8 0, .int .u32 0, .int .u32 0, .int .u32 0, .int .u32 0, .slice none 0 0, .slice none 0 0] 39 (0, 0))] []; exact Hp.call h hb
          | _ + 3, h => exact h.elim
        case z8_1g =>
          intro j hj; cases hj
        case z8_1t0 => exact StabS.const _ _ _ _
        case z8_1t1 => exact ⟨(by intro w w' v hb h; exact h), (by intro k hk hne w w' v ht h; exact h)⟩
        case z8_1t2 => exact StabS.const _ _ _ _
        case z8_1t3 => exact StabS.const _ _ _ _
        case z8_1t4 => exact StabS.const _ _ _ _
        case z8_1t5 => exact ⟨(by intro w w' v hb h; exact h), (by intro k hk hne w w' v ht h; exact h)⟩
        case z8_1t6 => exact StabS.const _ _ _ _
        case z8_1t7 => exact StabS.const _ _ _ _
        case z8_1t8 => exact StabS.const _ _ _ _
        case z8_1t9 => exact StabS.const _ _ _ _
        case z8_1t10 => exact StabS.const _ _ _ _
        case z8_1t11 => exact StabS.const _ _ _ _
        case z8_1o0 =>
          intro vs w t hC ht1 ht2 hS hV
          rw [if_pos (by kernel_rfl)]
          generalize hρ : rho _ _ _ vs = ρ
          have e0 : ρ (.tmp 0) = .slice (some ad) 9 c := by rw [← hρ]; kernel_rfl
          clear hρ hV
          refine runs_val (v := .slice (some ad) 9 c) (w' := w) ?_ ⟨Below.refl _ _, rfl⟩
          clear ht1 ht2 hS hC
          go_simp <;> (first | exact IntWalk.u64_in _ (by omega) | exact IntWalk.u32_in _ (by omega) | exact IntWalk.u16_in _ (by omega) | exact IntWalk.u8_in _ (by omega) | exact IntWalk.i64_in _ (by omega) | skip)
        case z8_1o1 =>
          intro vs w t hC ht1 ht2 hS hV
          rw [if_pos (by kernel_rfl)]
          generalize hρ : rho _ _ _ vs = ρ
          have d24 : (vs 0) = .slice (some ad) 9 c := hV 0 (by kernel_rfl)
          have e24 : ρ (.tmp 24) = vs 0 := by rw [← hρ]; kernel_rfl
          rw [d24] at e24; clear d24
          have econ : ∀ v : Value, ρ (.const v) = v := fun v => by rw [← hρ]; rfl
          clear hρ hV
          have r1 := X1.out w
          exact runs_slice 23 (.tmp 24) (some (.const (.int .i64 1))) (some (.const (.int .i64 5))) none rfl Try.underlying23 (by simp only [Option.map_some, Option.map_none, e24, econ]; exact r1) ⟨Below.refl _ _, rfl⟩
        case z8_1o2 =>
          intro vs w t hC ht1 ht2 hS hV
          rw [if_pos (by kernel_rfl)]
          generalize hρ : rho _ _ _ vs = ρ
          have d25 : (fun (w : World) (v : Value) => v = .slice A1 4 (c - 1)) w (vs 1) := hV 1 (by kernel_rfl)
          have e25 : ρ (.tmp 25) = vs 1 := by rw [← hρ]; kernel_rfl
          have ef51 : ρ (.func 51) = .func (.func 51) #[] #[] := by rw [← hρ]; rfl
          clear hρ hV
          rw [d25] at e25
          refine runs_call (f := 51) (args := #[.slice A1 4 (c - 1)]) (w' := w) ?_ ?_
          · clear d25 hS hC ht1 ht2; go_simp
          · refine (value_any A1 4 (c - 1) ((l1.drop 0).take 4) w (Y1.out w hC.1) (by have := HC.out.1; omega) (by omega) ((HBL.out.drop 0).take 4)).mono ?_
            rintro e w5 ⟨rfl, hb5⟩
            exact ⟨_, rfl, hb5.below, congrArg (Value.int .u64) HV.out.1⟩
        case z8_1o3 =>
          intro vs w t hC ht1 ht2 hS hV
          rw [if_pos (by kernel_rfl)]
          generalize hρ : rho _ _ _ vs = ρ
          have d26 : (vs 2) = .int .u64 tv := hV 2 (by kernel_rfl)
          have e26 : ρ (.tmp 26) = vs 2 := by rw [← hρ]; kernel_rfl
          rw [d26] at e26; clear d26
          clear hρ hV
          have hx := HTM.out
          refine runs_val (v := .int .u32 tv) (w' := w) ?_ ⟨Below.refl _ _, rfl⟩
          clear ht1 ht2 hS hC
          go_simp
          try exact IntWalk.u32_in _ (by omega)
        case z8_1o4 =>
          intro vs w t hC ht1 ht2 hS hV
          rw [if_pos (by kernel_rfl)]
          generalize hρ : rho _ _ _ vs = ρ
          have e0 : ρ (.tmp 0) = .slice (some ad) 9 c := by rw [← hρ]; kernel_rfl
          clear hρ hV
          refine runs_val (v := .slice (some ad) 9 c) (w' := w) ?_ ⟨Below.refl _ _, rfl⟩
          clear ht1 ht2 hS hC
          go_simp <;> (first | exact IntWalk.u64_in _ (by omega) | exact IntWalk.u32_in _ (by omega) | exact IntWalk.u16_in _ (by omega) | exact IntWalk.u8_in _ (by omega) | exact IntWalk.i64_in _ (by omega) | skip)
        case z8_1o5 =>
          intro vs w t hC ht1 ht2 hS hV
          rw [if_pos (by kernel_rfl)]
          generalize hρ : rho _ _ _ vs = ρ
          have d28 : (vs 4) = .slice (some ad) 9 c := hV 4 (by kernel_rfl)
          have e28 : ρ (.tmp 28) = vs 4 := by rw [← hρ]; kernel_rfl
          rw [d28] at e28; clear d28
          have econ : ∀ v : Value, ρ (.const v) = v := fun v => by rw [← hρ]; rfl
          clear hρ hV
          have r1 := X2.out w
          exact runs_slice 23 (.tmp 28) (some (.const (.int .i64 5))) (some (.const (.int .i64 9))) none rfl Try.underlying23 (by simp only [Option.map_some, Option.map_none, e28, econ]; exact r1) ⟨Below.refl _ _, rfl⟩
        case z8_1o6 =>
          intro vs w t hC ht1 ht2 hS hV
          rw [if_pos (by kernel_rfl)]
          generalize hρ : rho _ _ _ vs = ρ
          have d29 : (fun (w : World) (v : Value) => v = .slice A2 4 (c - 5)) w (vs 5) := hV 5 (by kernel_rfl)
          have e29 : ρ (.tmp 29) = vs 5 := by rw [← hρ]; kernel_rfl
          have ef51 : ρ (.func 51) = .func (.func 51) #[] #[] := by rw [← hρ]; rfl
          clear hρ hV
          rw [d29] at e29
          refine runs_call (f := 51) (args := #[.slice A2 4 (c - 5)]) (w' := w) ?_ ?_
          · clear d29 hS hC ht1 ht2; go_simp
          · refine (value_any A2 4 (c - 5) ((l1.drop 4).take 4) w (Y2.out w hC.1) (by have := HC.out.1; omega) (by omega) ((HBL.out.drop 4).take 4)).mono ?_
            rintro e w5 ⟨rfl, hb5⟩
            exact ⟨_, rfl, hb5.below, congrArg (Value.int .u64) HV.out.2⟩
        case z8_1o7 =>
          intro vs w t hC ht1 ht2 hS hV
          rw [if_pos (by kernel_rfl)]
          generalize hρ : rho _ _ _ vs = ρ
          have d30 : (vs 6) = .int .u64 mv := hV 6 (by kernel_rfl)
          have e30 : ρ (.tmp 30) = vs 6 := by rw [← hρ]; kernel_rfl
          rw [d30] at e30; clear d30
          clear hρ hV
          have hx := HTM.out
          refine runs_val (v := .int .u32 mv) (w' := w) ?_ ⟨Below.refl _ _, rfl⟩
          clear ht1 ht2 hS hC
          go_simp
          try exact IntWalk.u32_in _ (by omega)
        case z8_1o8 =>
          intro vs w t hC ht1 ht2 hS hV
          rw [if_pos (by kernel_rfl)]
          generalize hρ : rho _ _ _ vs = ρ
          have e4 : ρ (.tmp 4) = .pointer (some ⟨g4, 0, none⟩) := by rw [← hρ]; kernel_rfl
          clear hρ hV
          refine runs_val (v := .pointer (some ⟨g4, 1, none⟩)) (w' := w) ?_ ⟨Below.refl _ _, rfl⟩
          clear ht1 ht2 hS hC
          go_simp <;> (first | exact IntWalk.u64_in _ (by omega) | exact IntWalk.u32_in _ (by omega) | exact IntWalk.u16_in _ (by omega) | exact IntWalk.u8_in _ (by omega) | exact IntWalk.i64_in _ (by omega) | skip)
        case z8_1o9 =>
          intro vs w hC hS hV
          replace hS : Hp B w00 w [(g4, .cells #[.int .u8 2, .int .u32 0, .int .u32 0, .int .u32 0, .int .u32 0, .slice none 0 0, .slice none 0 0] 39 (0, 0)), (B, .cells #[.int .u8 0, .int .u32 0, .int .u32 0, .int .u32 0, .int .u32 0, .slice none 0 0, .slice none 0 0] 39 (0, 0))] [] := hS
          rw [if_pos (by kernel_rfl)]
          generalize hρ : rho _ _ _ vs = ρ
          have d32 : (vs 8) = .pointer (some ⟨g4, 1, none⟩) := hV 8 (by kernel_rfl)
          have e32 : ρ (.tmp 32) = vs 8 := by rw [← hρ]; kernel_rfl
          rw [d32] at e32; clear d32
          have d27 : (vs 3) = .int .u32 tv := hV 3 (by kernel_rfl)
          have e27 : ρ (.tmp 27) = vs 3 := by rw [← hρ]; kernel_rfl
          rw [d27] at e27; clear d27
          clear hρ hV
          have c1 := blk_cell (hS.get (i := 0) rfl) 1
          have f1 := blk_frozen (hS.get (i := 0) rfl) 1
          have hH := hS.setCell (i := 0) rfl 1 (.int .u32 tv)
          refine runs_skip (w' := w.setCell ⟨g4, 1, none⟩ (.int .u32 tv)) ?_ ⟨⟨hH.bel, hH.le⟩, trivial, trivial, hH⟩
          clear hS hC hH
          go_simp
        case z8_1o10 =>
          intro vs w t hC ht1 ht2 hS hV
          rw [if_pos (by kernel_rfl)]
          generalize hρ : rho _ _ _ vs = ρ
          have e4 : ρ (.tmp 4) = .pointer (some ⟨g4, 0, none⟩) := by rw [← hρ]; kernel_rfl
          clear hρ hV
          refine runs_val (v := .pointer (some ⟨g4, 2, none⟩)) (w' := w) ?_ ⟨Below.refl _ _, rfl⟩
          clear ht1 ht2 hS hC
          go_simp <;> (first | exact IntWalk.u64_in _ (by omega) | exact IntWalk.u32_in _ (by omega) | exact IntWalk.u16_in _ (by omega) | exact IntWalk.u8_in _ (by omega) | exact IntWalk.i64_in _ (by omega) | skip)
        case z8_1o11 =>
          intro vs w hC hS hV
          replace hS : Hp B w00 w [(g4, .cells #[.int .u8 2, .int .u32 tv, .int .u32 0, .int .u32 0, .int .u32 0, .slice none 0 0, .slice none 0 0] 39 (0, 0)), (B, .cells #[.int .u8 0, .int .u32 0, .int .u32 0, .int .u32 0, .int .u32 0, .slice none 0 0, .slice none 0 0] 39 (0, 0))] [] := hS
          rw [if_pos (by kernel_rfl)]
          generalize hρ : rho _ _ _ vs = ρ
          have d33 : (vs 10) = .pointer (some ⟨g4, 2, none⟩) := hV 10 (by kernel_rfl)
          have e33 : ρ (.tmp 33) = vs 10 := by rw [← hρ]; kernel_rfl
          rw [d33] at e33; clear d33
          have d31 : (vs 7) = .int .u32 mv := hV 7 (by kernel_rfl)
          have e31 : ρ (.tmp 31) = vs 7 := by rw [← hρ]; kernel_rfl
          rw [d31] at e31; clear d31
          clear hρ hV
          have c1 := blk_cell (hS.get (i := 0) rfl) 2
          have f1 := blk_frozen (hS.get (i := 0) rfl) 2
          have hH := hS.setCell (i := 0) rfl 2 (.int .u32 mv)
          refine runs_skip (w' := w.setCell ⟨g4, 2, none⟩ (.int .u32 mv)) ?_ ⟨⟨hH.bel, hH.le⟩, trivial, trivial, hH⟩
          clear hS hC hH
          go_simp
        case z8_1e =>
          intro vs W4 hC hS hV
          replace hS : (fun (w : World) => Hp B w00 w [(g4, .cells #[.int .u8 2, .int .u32 tv, .int .u32 mv, .int .u32 0, .int .u32 0, .slice none 0 0, .slice none 0 0] 39 (0, 0)), (B, .cells #[.int .u8 0, .int .u32 0, .int .u32 0, .int .u32 0, .int .u32 0, .slice none 0 0, .slice none 0 0] 39 (0, 0))] []) W4 := hS
          have d24 : (vs 0) = .slice (some ad) 9 c := hV 0 (Nat.le_of_ble_eq_true rfl)
          have d25 : (fun (w : World) (v : Value) => v = .slice A1 4 (c - 1)) W4 (vs 1) := hV 1 (Nat.le_of_ble_eq_true rfl)
          have d26 : (vs 2) = .int .u64 tv := hV 2 (Nat.le_of_ble_eq_true rfl)
          have d27 : (vs 3) = .int .u32 tv := hV 3 (Nat.le_of_ble_eq_true rfl)
          have d28 : (vs 4) = .slice (some ad) 9 c := hV 4 (Nat.le_of_ble_eq_true rfl)
          have d29 : (fun (w : World) (v : Value) => v = .slice A2 4 (c - 5)) W4 (vs 5) := hV 5 (Nat.le_of_ble_eq_true rfl)
          have d30 : (vs 6) = .int .u64 mv := hV 6 (Nat.le_of_ble_eq_true rfl)
          have d31 : (vs 7) = .int .u32 mv := hV 7 (Nat.le_of_ble_eq_true rfl)
          have d32 : (vs 8) = .pointer (some ⟨g4, 1, none⟩) := hV 8 (Nat.le_of_ble_eq_true rfl)
          have d33 : (vs 10) = .pointer (some ⟨g4, 2, none⟩) := hV 10 (Nat.le_of_ble_eq_true rfl)
          clear hV
          simp only [putAll]
          rw [d24, d26, d27, d28, d30, d31, d32, d33]
          clear d24 d26 d27 d28 d30 d31 d32 d33
          generalize vs 1 = v25 at *
          generalize vs 5 = v29 at *
          generalize vs 9 = vN9
          generalize vs 11 = vN11
          clear vs
          simp only [Act.put, List.setIfInBounds_toArray, List.set_cons_zero, List.set_cons_succ]
          have H4 := Aside0.mk hS
          clear hS hC d25 d29 H1
          go_wp2_with (first | (refine wpList_load_row_g 39 (.tmp 4) rfl g4 rfl rfl 39 _ (0, 0) _ (H4.out.get (i := 0) rfl) Try.underlying39 rfl (rmsg_info _ _ _ _ _ _ _) ?_) | (refine wpList_store_row rfl 39 (.tmp 2) (.tmp 34) rfl B #[.int .u8 2, .int .u32 tv, .int .u32 mv, .int .u32 0, .int .u32 0, .slice none 0 0, .slice none 0 0] rfl rfl 39 _ (H4.out.get (i := 1) rfl) (rmsg_info _ _ _ _ _ _ _) rfl (by simp [Value.oneCell']) ?_))
          have H9 := Aside0.mk (H4.out.setRow (i := 1) rfl #[.int .u8 2, .int .u32 tv, .int .u32 mv, .int .u32 0, .int .u32 0, .slice none 0 0, .slice none 0 0])
          refine bodyPost_ret (results_ct rfl _ _ B _ #[.int .u8 2, .int .u32 tv, .int .u32 mv, .int .u32 0, .int .u32 0, .slice none 0 0, .slice none 0 0] (0, 0) _ rfl (H9.out.get (i := 1) rfl) Try.underlying39 rfl (rmsg_info _ _ _ _ _ _ _)) rfl ?_
          exact ⟨RReadM.of HRQ.out (MrC_zero _ 2 tv mv), H9.out.bel⟩
      · have h9j : ¬ (n : Int) = 9 := by omega
        have h9i : ((n : Int) == 9) = false := by simpa using h9j
        have HRQ : Aside0 (readR (2 :: l1) = badR) := ⟨by rw [readR_two, if_neg (by have := HL1.out; omega)]⟩
        go_wp2_with (first | (refine wpList_store_row rfl 39 (.tmp 2) (.tmp 23) rfl B #[.int .u8 0, .int .u32 0, .int .u32 0, .int .u32 0, .int .u32 0, .slice none 0 0, .slice none 0 0] rfl rfl 39 _ (H1.out.get (i := 1) rfl) (rmsg_info _ _ _ _ _ _ _) rfl (by simp [Value.oneCell']) ?_))
        have H9 := Aside0.mk (H1.out.setRow (i := 1) rfl #[.int .u8 0, .int .u32 0, .int .u32 0, .int .u32 0, .int .u32 0, .slice none 0 0, .slice none 0 0])
        refine bodyPost_ret (results_ct rfl _ _ B _ #[.int .u8 0, .int .u32 0, .int .u32 0, .int .u32 0, .int .u32 0, .slice none 0 0, .slice none 0 0] (0, 0) _ rfl (H9.out.get (i := 1) rfl) Try.underlying39 rfl (rmsg_info _ _ _ _ _ _ _)) rfl ?_
        exact ⟨RReadM.of HRQ.out (MrC_zero _ 0 0 0), H9.out.bel⟩
    · skip
      by_cases h5 : x = 5
      · subst h5
        obtain ⟨A9, z1, z2, _⟩ := eye_lo (P := Try.prog) .u8 .i64 23 5 1 Try.underlying23 np_info (some ad) n c 1 (by omega) HC.out.1
        have hn1 : (1 : Int) ≤ n := by omega
        have Z2 : Aside0 (∀ z, Below B w00 z → (Kd.int .u8).C z A9 (n - 1) l1) := ⟨fun z hz => z2 z (5 :: l1) (HF.out z hz)⟩
        have Z1 : Aside0 (∀ W : World, (Instr.slice 23 (.slice (some ad) n c) (some (.int .i64 1)) none none).run Try.prog W = .ok (.slice A9 (n - 1) (c - 1)) W) := ⟨fun W => z1 W⟩
        clear z1 z2
        have z1 := Z1.out
        go_wp2_with fail
        generalize (w00.alloc (.cells #[.int .u8 0, .int .u32 0, .int .u32 0, .int .u32 0, .int .u32 0, .slice none 0 0, .slice none 0 0] 39)).alloc (.cells #[.int .u8 5, .int .u32 0, .int .u32 0, .int .u32 0, .int .u32 0, .slice none 0 0, .slice none 0 0] 39) = W3 at *
        clear hg4 cx hcx
        clear z1 Z1
        refine (rparseS_any A9 (n - 1) (c - 1) l1 W3 (Z2.out _ H1.out.bel) (by have := HC.out.1; omega) (by have := HC.out.2; omega) HBL.out).mono ?_
        rintro e w4 ⟨hp4, hb4⟩
        obtain ⟨A5, n5, c5, A6, n6, c6, rfl, hD4⟩ := rparse_formS hp4
        obtain ⟨g5, hg5⟩ : ∃ g, w4.heap.size = g := ⟨_, rfl⟩
        have H4 := Aside0.mk ((H1.out.rfR hb4 hD4).allocAt (.cells #[.int .u32 (tkQ l1), .int .u32 (hsQ l1), .slice A5 n5 c5, .slice A6 n6 c6] 37) g5 hg5)
        clear hp4 hb4 hD4 H1
        obtain ⟨β, hβ⟩ : ∃ β, okD l1 = β := ⟨_, rfl⟩
        have HBE := Aside0.mk hβ
        rw [hβ]
        clear hβ
        cases β with
        | false =>
          have HRQ : Aside0 (readR (5 :: l1) = badR) := ⟨by rw [readR_five _ (by decide) (by decide), if_neg (by rw [HBE.out]; decide)]⟩
          go_wp2_with (first | (refine wpList_store_row rfl 39 (.tmp 2) (.tmp 46) rfl B #[.int .u8 0, .int .u32 0, .int .u32 0, .int .u32 0, .int .u32 0, .slice none 0 0, .slice none 0 0] rfl rfl 39 _ (H4.out.get (i := 2) rfl) (rmsg_info _ _ _ _ _ _ _) rfl (by simp [Value.oneCell']) ?_))
          have H9 := Aside0.mk (H4.out.setRow (i := 2) rfl #[.int .u8 0, .int .u32 0, .int .u32 0, .int .u32 0, .int .u32 0, .slice none 0 0, .slice none 0 0])
          refine bodyPost_ret (results_ct rfl _ _ B _ #[.int .u8 0, .int .u32 0, .int .u32 0, .int .u32 0, .int .u32 0, .slice none 0 0, .slice none 0 0] (0, 0) _ rfl (H9.out.get (i := 2) rfl) Try.underlying39 rfl (rmsg_info _ _ _ _ _ _ _)) rfl ?_
          exact ⟨RReadM.of HRQ.out (MrC_zero _ 0 0 0), H9.out.bel⟩
        | true =>
          go_wp2_with fail
          generalize hW5 : w4.alloc (.cells #[.int .u32 (tkQ l1), .int .u32 (hsQ l1), .slice A5 n5 c5, .slice A6 n6 c6] 37) = W5 at *
          clear hW5 hg5
          refine regionS (W := W5)
            [fun _ v => v = .agg #[.int .u32 (tkQ l1), .int .u32 (hsQ l1), .slice A5 n5 c5, .slice A6 n6 c6],
             fun _ v => v = .pointer (some ⟨g5, 0, none⟩),
             fun _ v => v = .int .u32 (tkQ l1),
             fun _ v => v = .pointer (some ⟨g4, 3, none⟩),
             fun _ _ => True,
             fun _ v => v = .pointer (some ⟨g4, 1, none⟩),
             fun _ _ => True]
            [4, 6]
            (fun t => match t with | 0 => fun (rs : List Value) (w : World) => Hp B w00 w [(g5, .cells #[.int .u32 (tkQ l1), .int .u32 (hsQ l1), .slice A5 n5 c5, .slice A6 n6 c6] 37 (0, 0)), (g4, .cells #[.int .u8 5, .int .u32 0, .int .u32 0, .int .u32 0, .int .u32 0, .slice none 0 0, .slice none 0 0] 39 (0, 0)), (B, .cells #[.int .u8 0, .int .u32 0, .int .u32 0, .int .u32 0, .int .u32 0, .slice none 0 0, .slice none 0 0] 39 (0, 0))] [fun X => RfR B X (tkQ l1) (hsQ l1) (plQ l1) ((clQ l1).map toR) (.agg #[.int .u32 (tkQ l1), .int .u32 (hsQ l1), .slice A5 n5 c5, .slice A6 n6 c6])] | 1 => fun (rs : List Value) (w : World) => Hp B w00 w [(g5, .cells #[.int .u32 (tkQ l1), .int .u32 (hsQ l1), .slice A5 n5 c5, .slice A6 n6 c6] 37 (0, 0)), (g4, .cells #[.int .u8 5, .int .u32 0, .int .u32 0, .int .u32 (tkQ l1), .int .u32 (hsQ l1), .slice A5 n5 c5, .slice A6 n6 c6] 39 (0, 0)), (B, .cells #[.int .u8 0, .int .u32 0, .int .u32 0, .int .u32 0, .int .u32 0, .slice none 0 0, .slice none 0 0] 39 (0, 0))] [fun X => RfR B X (tkQ l1) (hsQ l1) (plQ l1) ((clQ l1).map toR) (.agg #[.int .u32 (tkQ l1), .int .u32 (hsQ l1), .slice A5 n5 c5, .slice A6 n6 c6])] | 2 => fun (rs : List Value) (w : World) => Hp B w00 w [(g5, .cells #[.int .u32 (tkQ l1), .int .u32 (hsQ l1), .slice A5 n5 c5, .slice A6 n6 c6] 37 (0, 0)), (g4, .cells #[.int .u8 5, .int .u32 (tkQ l1), .int .u32 0, .int .u32 (tkQ l1), .int .u32 (hsQ l1), .slice A5 n5 c5, .slice A6 n6 c6] 39 (0, 0)), (B, .cells #[.int .u8 0, .int .u32 0, .int .u32 0, .int .u32 0, .int .u32 0, .slice none 0 0, .slice none 0 0] 39 (0, 0))] [fun X => RfR B X (tkQ l1) (hsQ l1) (plQ l1) ((clQ l1).map toR) (.agg #[.int .u32 (tkQ l1), .int .u32 (hsQ l1), .slice A5 n5 c5, .slice A6 n6 c6])] | _ => fun _ _ => False)
            (fun _ _ _ => True) (fun w => ∃ o, Hp B w00 w [(g5, .cells #[.int .u32 (tkQ l1), .int .u32 (hsQ l1), .slice A5 n5 c5, .slice A6 n6 c6] 37 (0, 0)), (g4, o), (B, .cells #[.int .u8 0, .int .u32 0, .int .u32 0, .int .u32 0, .int .u32 0, .slice none 0 0, .slice none 0 0] 39 (0, 0))] [fun X => RfR B X (tkQ l1) (hsQ l1) (plQ l1) ((clQ l1).map toR) (.agg #[.int .u32 (tkQ l1), .int .u32 (hsQ l1), .slice A5 n5 c5, .slice A6 n6 c6])])
            (fun j =>  none)
            [(0, some 47), (1, some 48), (2, some 49), (3, some 50), (4, none), (5, some 51), (6, none)]
            []
            (by kernel_rfl) (by kernel_rfl) (by kernel_rfl) (by kernel_rfl) (by kernel_rfl) ?z15_2c ?z15_2i ?z15_2b ?z15_2d ?z15_2g ⟨?z15_2t0, ?z15_2t1, ?z15_2t2, ?z15_2t3, ?z15_2t4, ?z15_2t5, ?z15_2t6, trivial⟩ ⟨?z15_2o0, ?z15_2o1, ?z15_2o2, ?z15_2o3, ?z15_2o4, ?z15_2o5, ?z15_2o6, trivial⟩ ?z15_2e
          case z15_2c => exact ⟨_, H4.out.drew⟩
          case z15_2i => exact H4.out.drew
          case z15_2b => intro w w' hb h; obtain ⟨o, h⟩ := h; exact ⟨o, h.call hb⟩
          case z15_2d =>
            intro t rs w w' hb h
            match t, h with
            | 0, h => (replace h : Hp B w00 w [(g5, .cells #[.int .u32 (tkQ l1), .int .u32 (hsQ l1), .slice A5 n5 c5, .slice A6 n6 c6] 37 (0, 0)), (g4, .cells #[.int .u8 5, .int .u32 0, .int .u32 0, .int .u32 0, .int .u32 0, .slice none 0 0, .slice none 0 0] 39 (0, 0)), (B, .cells #[.int .u8 0, .int .u32 0, .int .u32 0, .int .u32 0, .int .u32 0, .slice none 0 0, .slice none 0 0] 39 (0, 0))] [fun X => RfR B X (tkQ l1) (hsQ l1) (plQ l1) ((clQ l1).map toR) (.agg #[.int .u32 (tkQ l1), .int .u32 (hsQ l1), .slice A5 n5 c5, .slice A6 n6 c6])] := h); show Hp B w00 w' [(g5, .cells #[.int .u32 (tkQ l1), .int .u32 (hsQ l1), .slice A5 n5 c5, .slice A6 n6 c6] 37 (0, 0)), (g4, .cells #[.int .u8 5, .int .u32 0, .int .u32 0, .int .u32 0, .int .u32 0, .slice none 0 0, .slice none 0 0] 39 (0, 0)), (B, .cells #[.int .u8 0, .int .u32 0, .int .u32 0, .int .u32 0, .int .u32 0, .slice none 0 0, .slice none 0 0] 39 (0, 0))] [fun X => RfR B X (tkQ l1) (hsQ l1) (plQ l1) ((clQ l1).map toR) (.agg #[.int .u32 (tkQ l1), .int .u32 (hsQ l1), .slice A5 n5 c5, .slice A6 n6 c6])]; exact Hp.call h hb
            | 1, h => (replace h : Hp B w00 w [(g5, .cells #[.int .u32 (tkQ l1), .int .u32 (hsQ l1), .slice A5 n5 c5, .slice A6 n6 c6] 37 (0, 0)), (g4, .cells #[.int .u8 5, .int .u32 0, .int .u32 0, .int .u32 (tkQ l1), .int .u32 (hsQ l1), .slice A5 n5 c5, .slice A6 n6 c6] 39 (0, 0)), (B, .cells #[.int .u8 0, .int .u32 0, .int .u32 0, .int .u32 0, .int .u32 0, .slice none 0 0, .slice none 0 0] 39 (0, 0))] [fun X => RfR B X (tkQ l1) (hsQ l1) (plQ l1) ((clQ l1).map toR) (.agg #[.int .u32 (tkQ l1), .int .u32 (hsQ l1), .slice A5 n5 c5, .slice A6 n6 c6])] := h); show Hp B w00 w' [(g5, .cells #[.int .u32 (tkQ l1), .int .u32 (hsQ l1), .slice A5 n5 c5, .slice A6 n6 c6] 37 (0, 0)), (g4, .cells #[.int .u8 5, .int .u32 0, .int .u32 0, .int .u32 (tkQ l1), .int .u32 (hsQ l1), .slice A5 n5 c5, .slice A6 n6 c6] 39 (0, 0)), (B, .cells #[.int .u8 0, .int .u32 0, .int .u32 0, .int .u32 0, .int .u32 0, .slice none 0 0, .slice none 0 0] 39 (0, 0))] [fun X => RfR B X (tkQ l1) (hsQ l1) (plQ l1) ((clQ l1).map toR) (.agg #[.int .u32 (tkQ l1), .int .u32 (hsQ l1), .slice A5 n5 c5, .slice A6 n6 c6])]; exact Hp.call h hb
            | 2, h => (replace h : Hp B w00 w [(g5, .cells #[.int .u32 (tkQ l1), .int .u32 (hsQ l1), .slice A5 n5 c5, .slice A6 n6 c6] 37 (0, 0)), (g4, .cells #[.int .u8 5, .int .u32 (tkQ l1), .int .u32 0, .int .u32 (tkQ l1), .int .u32 (hsQ l1), .slice A5 n5 c5, .slice A6 n6 c6] 39 (0, 0)), (B, .cells #[.int .u8 0, .int .u32 0, .int .u32 0, .int .u32 0, .int .u32 0, .slice none 0 0, .slice none 0 0] 39 (0, 0))] [fun X => RfR B X (tkQ l1) (hsQ l1) (plQ l1) ((clQ l1).map toR) (.agg #[.int .u32 (tkQ l1), .int .u32 (hsQ l1), .slice A5 n5 c5, .slice A6 n6 c6])] := h); show Hp B w00 w' [(g5, .cells #[.int .u32 (tkQ l1), .int .u32 (hsQ l1), .slice A5 n5 c5, .slice A6 n6 c6] 37 (0, 0)), (g4, .cells #[.int .u8 5, .int .u32 (tkQ l1), .int .u32 0, .int .u32 (tkQ l1), .int .u32 (hsQ l1), .slice A5 n5 c5, .slice A6 n6 c6] 39 (0, 0)), (B, .cells #[.int .u8 0, .int .u32 0, .int .u32 0, .int .u32 0, .int .u32 0, .slice none 0 0, .slice none 0 0] 39 (0, 0))] [fun X => RfR B X (tkQ l1) (hsQ l1) (plQ l1) ((clQ l1).map toR) (.agg #[.int .u32 (tkQ l1), .int .u32 (hsQ l1), .slice A5 n5 c5, .slice A6 n6 c6])]; exact Hp.call h hb
            | _ + 3, h => exact h.elim
          case z15_2g =>
            intro j hj; cases hj
          case z15_2t0 => exact StabS.const _ _ _ _
          case z15_2t1 => exact StabS.const _ _ _ _
          case z15_2t2 => exact StabS.const _ _ _ _
          case z15_2t3 => exact StabS.const _ _ _ _
          case z15_2t4 => exact StabS.const _ _ _ _
          case z15_2t5 => exact StabS.const _ _ _ _
          case z15_2t6 => exact StabS.const _ _ _ _
          case z15_2o0 =>
            intro vs w t hC ht1 ht2 hS hV
            rw [if_pos (by kernel_rfl)]
            generalize hρ : rho _ _ _ vs = ρ
            have e5 : ρ (.tmp 5) = .pointer (some ⟨g5, 0, none⟩) := by rw [← hρ]; kernel_rfl
            clear hρ hV
            obtain ⟨o, hH⟩ := hC
            have c0 := blk_cell (hH.get (i := 0) rfl) 0
            have c1 := blk_cell (hH.get (i := 0) rfl) 1
            have c2 := blk_cell (hH.get (i := 0) rfl) 2
            have c3 := blk_cell (hH.get (i := 0) rfl) 3
            refine runs_val (v := .agg #[.int .u32 (tkQ l1), .int .u32 (hsQ l1), .slice A5 n5 c5, .slice A6 n6 c6]) (w' := w) ?_ ⟨Below.refl _ _, rfl⟩
            clear ht1 ht2 hS hH
            go_simp
          case z15_2o1 =>
            intro vs w t hC ht1 ht2 hS hV
            rw [if_pos (by kernel_rfl)]
            generalize hρ : rho _ _ _ vs = ρ
            have e5 : ρ (.tmp 5) = .pointer (some ⟨g5, 0, none⟩) := by rw [← hρ]; kernel_rfl
            clear hρ hV
            refine runs_val (v := .pointer (some ⟨g5, 0, none⟩)) (w' := w) ?_ ⟨Below.refl _ _, rfl⟩
            clear ht1 ht2 hS hC
            go_simp <;> (first | exact IntWalk.u64_in _ (by omega) | exact IntWalk.u32_in _ (by omega) | exact IntWalk.u16_in _ (by omega) | exact IntWalk.u8_in _ (by omega) | exact IntWalk.i64_in _ (by omega) | skip)
          case z15_2o2 =>
            intro vs w t hC ht1 ht2 hS hV
            rw [if_pos (by kernel_rfl)]
            generalize hρ : rho _ _ _ vs = ρ
            have d48 : (vs 1) = .pointer (some ⟨g5, 0, none⟩) := hV 1 (by kernel_rfl)
            have e48 : ρ (.tmp 48) = vs 1 := by rw [← hρ]; kernel_rfl
            rw [d48] at e48; clear d48
            clear hρ hV
            obtain ⟨o, hH⟩ := hC
            have c0 := blk_cell (hH.get (i := 0) rfl) 0
            refine runs_val (v := .int .u32 (tkQ l1)) (w' := w) ?_ ⟨Below.refl _ _, rfl⟩
            clear ht1 ht2 hS hH
            go_simp
          case z15_2o3 =>
            intro vs w t hC ht1 ht2 hS hV
            rw [if_pos (by kernel_rfl)]
            generalize hρ : rho _ _ _ vs = ρ
            have e4 : ρ (.tmp 4) = .pointer (some ⟨g4, 0, none⟩) := by rw [← hρ]; kernel_rfl
            clear hρ hV
            refine runs_val (v := .pointer (some ⟨g4, 3, none⟩)) (w' := w) ?_ ⟨Below.refl _ _, rfl⟩
            clear ht1 ht2 hS hC
            go_simp <;> (first | exact IntWalk.u64_in _ (by omega) | exact IntWalk.u32_in _ (by omega) | exact IntWalk.u16_in _ (by omega) | exact IntWalk.u8_in _ (by omega) | exact IntWalk.i64_in _ (by omega) | skip)
          case z15_2o4 =>
            intro vs w hC hS hV
            replace hS : Hp B w00 w [(g5, .cells #[.int .u32 (tkQ l1), .int .u32 (hsQ l1), .slice A5 n5 c5, .slice A6 n6 c6] 37 (0, 0)), (g4, .cells #[.int .u8 5, .int .u32 0, .int .u32 0, .int .u32 0, .int .u32 0, .slice none 0 0, .slice none 0 0] 39 (0, 0)), (B, .cells #[.int .u8 0, .int .u32 0, .int .u32 0, .int .u32 0, .int .u32 0, .slice none 0 0, .slice none 0 0] 39 (0, 0))] [fun X => RfR B X (tkQ l1) (hsQ l1) (plQ l1) ((clQ l1).map toR) (.agg #[.int .u32 (tkQ l1), .int .u32 (hsQ l1), .slice A5 n5 c5, .slice A6 n6 c6])] := hS
            rw [if_pos (by kernel_rfl)]
            generalize hρ : rho _ _ _ vs = ρ
            have d50 : (vs 3) = .pointer (some ⟨g4, 3, none⟩) := hV 3 (by kernel_rfl)
            have e50 : ρ (.tmp 50) = vs 3 := by rw [← hρ]; kernel_rfl
            rw [d50] at e50; clear d50
            have d47 : (vs 0) = .agg #[.int .u32 (tkQ l1), .int .u32 (hsQ l1), .slice A5 n5 c5, .slice A6 n6 c6] := hV 0 (by kernel_rfl)
            have e47 : ρ (.tmp 47) = vs 0 := by rw [← hρ]; kernel_rfl
            rw [d47] at e47; clear d47
            clear hρ hV
            have c3 := blk_cell (hS.get (i := 1) rfl) 3
            have c4 := blk_cell (hS.get (i := 1) rfl) 4
            have c5' := blk_cell (hS.get (i := 1) rfl) 5
            have c6' := blk_cell (hS.get (i := 1) rfl) 6
            have f3 := blk_frozen (hS.get (i := 1) rfl) 3
            have f4 := blk_frozen (hS.get (i := 1) rfl) 4
            have f5 := blk_frozen (hS.get (i := 1) rfl) 5
            have f6 := blk_frozen (hS.get (i := 1) rfl) 6
            have hH := (((hS.setCell (i := 1) rfl 3 (.int .u32 (tkQ l1))).setCell (i := 1) rfl 4 (.int .u32 (hsQ l1))).setCell (i := 1) rfl 5 (.slice A5 n5 c5)).setCell (i := 1) rfl 6 (.slice A6 n6 c6)
            refine runs_skip (w' := (((w.setCell ⟨g4, 3, none⟩ (.int .u32 (tkQ l1))).setCell ⟨g4, 4, none⟩ (.int .u32 (hsQ l1))).setCell ⟨g4, 5, none⟩ (.slice A5 n5 c5)).setCell ⟨g4, 6, none⟩ (.slice A6 n6 c6)) ?_ ⟨⟨_, hH⟩, trivial, trivial, hH⟩
            clear hS hC hH
            go_simp
          case z15_2o5 =>
            intro vs w t hC ht1 ht2 hS hV
            rw [if_pos (by kernel_rfl)]
            generalize hρ : rho _ _ _ vs = ρ
            have e4 : ρ (.tmp 4) = .pointer (some ⟨g4, 0, none⟩) := by rw [← hρ]; kernel_rfl
            clear hρ hV
            refine runs_val (v := .pointer (some ⟨g4, 1, none⟩)) (w' := w) ?_ ⟨Below.refl _ _, rfl⟩
            clear ht1 ht2 hS hC
            go_simp <;> (first | exact IntWalk.u64_in _ (by omega) | exact IntWalk.u32_in _ (by omega) | exact IntWalk.u16_in _ (by omega) | exact IntWalk.u8_in _ (by omega) | exact IntWalk.i64_in _ (by omega) | skip)
          case z15_2o6 =>
            intro vs w hC hS hV
            replace hS : Hp B w00 w [(g5, .cells #[.int .u32 (tkQ l1), .int .u32 (hsQ l1), .slice A5 n5 c5, .slice A6 n6 c6] 37 (0, 0)), (g4, .cells #[.int .u8 5, .int .u32 0, .int .u32 0, .int .u32 (tkQ l1), .int .u32 (hsQ l1), .slice A5 n5 c5, .slice A6 n6 c6] 39 (0, 0)), (B, .cells #[.int .u8 0, .int .u32 0, .int .u32 0, .int .u32 0, .int .u32 0, .slice none 0 0, .slice none 0 0] 39 (0, 0))] [fun X => RfR B X (tkQ l1) (hsQ l1) (plQ l1) ((clQ l1).map toR) (.agg #[.int .u32 (tkQ l1), .int .u32 (hsQ l1), .slice A5 n5 c5, .slice A6 n6 c6])] := hS
            rw [if_pos (by kernel_rfl)]
            generalize hρ : rho _ _ _ vs = ρ
            have d51 : (vs 5) = .pointer (some ⟨g4, 1, none⟩) := hV 5 (by kernel_rfl)
            have e51 : ρ (.tmp 51) = vs 5 := by rw [← hρ]; kernel_rfl
            rw [d51] at e51; clear d51
            have d49 : (vs 2) = .int .u32 (tkQ l1) := hV 2 (by kernel_rfl)
            have e49 : ρ (.tmp 49) = vs 2 := by rw [← hρ]; kernel_rfl
            rw [d49] at e49; clear d49
            clear hρ hV
            have c1 := blk_cell (hS.get (i := 1) rfl) 1
            have f1 := blk_frozen (hS.get (i := 1) rfl) 1
            have hH := hS.setCell (i := 1) rfl 1 (.int .u32 (tkQ l1))
            refine runs_skip (w' := w.setCell ⟨g4, 1, none⟩ (.int .u32 (tkQ l1))) ?_ ⟨⟨_, hH⟩, trivial, trivial, hH⟩
            clear hS hC hH
            go_simp
          case z15_2e =>
            intro vs W7 hC hS hV
            replace hS : (fun (w : World) => Hp B w00 w [(g5, .cells #[.int .u32 (tkQ l1), .int .u32 (hsQ l1), .slice A5 n5 c5, .slice A6 n6 c6] 37 (0, 0)), (g4, .cells #[.int .u8 5, .int .u32 (tkQ l1), .int .u32 0, .int .u32 (tkQ l1), .int .u32 (hsQ l1), .slice A5 n5 c5, .slice A6 n6 c6] 39 (0, 0)), (B, .cells #[.int .u8 0, .int .u32 0, .int .u32 0, .int .u32 0, .int .u32 0, .slice none 0 0, .slice none 0 0] 39 (0, 0))] [fun X => RfR B X (tkQ l1) (hsQ l1) (plQ l1) ((clQ l1).map toR) (.agg #[.int .u32 (tkQ l1), .int .u32 (hsQ l1), .slice A5 n5 c5, .slice A6 n6 c6])]) W7 := hS
            have d47 : (vs 0) = .agg #[.int .u32 (tkQ l1), .int .u32 (hsQ l1), .slice A5 n5 c5, .slice A6 n6 c6] := hV 0 (Nat.le_of_ble_eq_true rfl)
            have d48 : (vs 1) = .pointer (some ⟨g5, 0, none⟩) := hV 1 (Nat.le_of_ble_eq_true rfl)
            have d49 : (vs 2) = .int .u32 (tkQ l1) := hV 2 (Nat.le_of_ble_eq_true rfl)
            have d50 : (vs 3) = .pointer (some ⟨g4, 3, none⟩) := hV 3 (Nat.le_of_ble_eq_true rfl)
            have d51 : (vs 5) = .pointer (some ⟨g4, 1, none⟩) := hV 5 (Nat.le_of_ble_eq_true rfl)
            clear hV
            simp only [putAll]
            rw [d47, d48, d49, d50, d51]
            clear d47 d48 d49 d50 d51
            generalize vs 4 = vN4
            generalize vs 6 = vN6
            clear vs
            simp only [Act.put, List.setIfInBounds_toArray, List.set_cons_zero, List.set_cons_succ]
            have H7 := Aside0.mk hS
            clear hS hC H4
            have HRQ : Aside0 (readR (5 :: l1) = ⟨true, 5, tkQ l1, 0, tkQ l1, hsQ l1, plQ l1, clQ l1⟩) := ⟨by rw [readR_five _ (by decide) (by decide), if_pos HBE.out]⟩
            go_wp2_with (first | (refine wpList_load_row_g 39 (.tmp 4) rfl g4 rfl rfl 39 _ (0, 0) _ (H7.out.get (i := 1) rfl) Try.underlying39 rfl (rmsg_info _ _ _ _ _ _ _) ?_) | (refine wpList_store_row rfl 39 (.tmp 2) (.tmp 52) rfl B #[.int .u8 5, .int .u32 (tkQ l1), .int .u32 0, .int .u32 (tkQ l1), .int .u32 (hsQ l1), .slice A5 n5 c5, .slice A6 n6 c6] rfl rfl 39 _ (H7.out.get (i := 2) rfl) (rmsg_info _ _ _ _ _ _ _) rfl (by simp [Value.oneCell']) ?_))
            have H9 := Aside0.mk (H7.out.setRow (i := 2) rfl #[.int .u8 5, .int .u32 (tkQ l1), .int .u32 0, .int .u32 (tkQ l1), .int .u32 (hsQ l1), .slice A5 n5 c5, .slice A6 n6 c6])
            refine bodyPost_ret (results_ct rfl _ _ B _ #[.int .u8 5, .int .u32 (tkQ l1), .int .u32 0, .int .u32 (tkQ l1), .int .u32 (hsQ l1), .slice A5 n5 c5, .slice A6 n6 c6] (0, 0) _ rfl (H9.out.get (i := 2) rfl) Try.underlying39 rfl (rmsg_info _ _ _ _ _ _ _)) rfl ?_
            exact ⟨RReadM.of HRQ.out (RfR.msg (H9.out.fact (i := 0) rfl)), H9.out.bel⟩
      · skip
        by_cases h6 : x = 6
        · subst h6
          obtain ⟨A9, z1, z2, _⟩ := eye_lo (P := Try.prog) .u8 .i64 23 5 1 Try.underlying23 np_info (some ad) n c 1 (by omega) HC.out.1
          have hn1 : (1 : Int) ≤ n := by omega
          have Z2 : Aside0 (∀ z, Below B w00 z → (Kd.int .u8).C z A9 (n - 1) l1) := ⟨fun z hz => z2 z (6 :: l1) (HF.out z hz)⟩
          have Z1 : Aside0 (∀ W : World, (Instr.slice 23 (.slice (some ad) n c) (some (.int .i64 1)) none none).run Try.prog W = .ok (.slice A9 (n - 1) (c - 1)) W) := ⟨fun W => z1 W⟩
          clear z1 z2
          have z1 := Z1.out
          go_wp2_with fail
          generalize (w00.alloc (.cells #[.int .u8 0, .int .u32 0, .int .u32 0, .int .u32 0, .int .u32 0, .slice none 0 0, .slice none 0 0] 39)).alloc (.cells #[.int .u8 6, .int .u32 0, .int .u32 0, .int .u32 0, .int .u32 0, .slice none 0 0, .slice none 0 0] 39) = W3 at *
          clear hg4 cx hcx
          clear z1 Z1
          refine (rparseS_any A9 (n - 1) (c - 1) l1 W3 (Z2.out _ H1.out.bel) (by have := HC.out.1; omega) (by have := HC.out.2; omega) HBL.out).mono ?_
          rintro e w4 ⟨hp4, hb4⟩
          obtain ⟨A5, n5, c5, A6, n6, c6, rfl, hD4⟩ := rparse_formS hp4
          obtain ⟨g5, hg5⟩ : ∃ g, w4.heap.size = g := ⟨_, rfl⟩
          have H4 := Aside0.mk ((H1.out.rfR hb4 hD4).allocAt (.cells #[.int .u32 (tkQ l1), .int .u32 (hsQ l1), .slice A5 n5 c5, .slice A6 n6 c6] 37) g5 hg5)
          clear hp4 hb4 hD4 H1
          obtain ⟨β, hβ⟩ : ∃ β, okD l1 = β := ⟨_, rfl⟩
          have HBE := Aside0.mk hβ
          rw [hβ]
          clear hβ
          cases β with
          | false =>
            have HRQ : Aside0 (readR (6 :: l1) = badR) := ⟨by rw [readR_five _ (by decide) (by decide), if_neg (by rw [HBE.out]; decide)]⟩
            go_wp2_with (first | (refine wpList_store_row rfl 39 (.tmp 2) (.tmp 46) rfl B #[.int .u8 0, .int .u32 0, .int .u32 0, .int .u32 0, .int .u32 0, .slice none 0 0, .slice none 0 0] rfl rfl 39 _ (H4.out.get (i := 2) rfl) (rmsg_info _ _ _ _ _ _ _) rfl (by simp [Value.oneCell']) ?_))
            have H9 := Aside0.mk (H4.out.setRow (i := 2) rfl #[.int .u8 0, .int .u32 0, .int .u32 0, .int .u32 0, .int .u32 0, .slice none 0 0, .slice none 0 0])
            refine bodyPost_ret (results_ct rfl _ _ B _ #[.int .u8 0, .int .u32 0, .int .u32 0, .int .u32 0, .int .u32 0, .slice none 0 0, .slice none 0 0] (0, 0) _ rfl (H9.out.get (i := 2) rfl) Try.underlying39 rfl (rmsg_info _ _ _ _ _ _ _)) rfl ?_
            exact ⟨RReadM.of HRQ.out (MrC_zero _ 0 0 0), H9.out.bel⟩
          | true =>
            go_wp2_with fail
            generalize hW5 : w4.alloc (.cells #[.int .u32 (tkQ l1), .int .u32 (hsQ l1), .slice A5 n5 c5, .slice A6 n6 c6] 37) = W5 at *
            clear hW5 hg5
            refine regionS (W := W5)
              [fun _ v => v = .agg #[.int .u32 (tkQ l1), .int .u32 (hsQ l1), .slice A5 n5 c5, .slice A6 n6 c6],
               fun _ v => v = .pointer (some ⟨g5, 0, none⟩),
               fun _ v => v = .int .u32 (tkQ l1),
               fun _ v => v = .pointer (some ⟨g4, 3, none⟩),
               fun _ _ => True,
               fun _ v => v = .pointer (some ⟨g4, 1, none⟩),
               fun _ _ => True]
              [4, 6]
              (fun t => match t with | 0 => fun (rs : List Value) (w : World) => Hp B w00 w [(g5, .cells #[.int .u32 (tkQ l1), .int .u32 (hsQ l1), .slice A5 n5 c5, .slice A6 n6 c6] 37 (0, 0)), (g4, .cells #[.int .u8 6, .int .u32 0, .int .u32 0, .int .u32 0, .int .u32 0, .slice none 0 0, .slice none 0 0] 39 (0, 0)), (B, .cells #[.int .u8 0, .int .u32 0, .int .u32 0, .int .u32 0, .int .u32 0, .slice none 0 0, .slice none 0 0] 39 (0, 0))] [fun X => RfR B X (tkQ l1) (hsQ l1) (plQ l1) ((clQ l1).map toR) (.agg #[.int .u32 (tkQ l1), .int .u32 (hsQ l1), .slice A5 n5 c5, .slice A6 n6 c6])] | 1 => fun (rs : List Value) (w : World) => Hp B w00 w [(g5, .cells #[.int .u32 (tkQ l1), .int .u32 (hsQ l1), .slice A5 n5 c5, .slice A6 n6 c6] 37 (0, 0)), (g4, .cells #[.int .u8 6, .int .u32 0, .int .u32 0, .int .u32 (tkQ l1), .int .u32 (hsQ l1), .slice A5 n5 c5, .slice A6 n6 c6] 39 (0, 0)), (B, .cells #[.int .u8 0, .int .u32 0, .int .u32 0, .int .u32 0, .int .u32 0, .slice none 0 0, .slice none 0 0] 39 (0, 0))] [fun X => RfR B X (tkQ l1) (hsQ l1) (plQ l1) ((clQ l1).map toR) (.agg #[.int .u32 (tkQ l1), .int .u32 (hsQ l1), .slice A5 n5 c5, .slice A6 n6 c6])] | 2 => fun (rs : List Value) (w : World) => Hp B w00 w [(g5, .cells #[.int .u32 (tkQ l1), .int .u32 (hsQ l1), .slice A5 n5 c5, .slice A6 n6 c6] 37 (0, 0)), (g4, .cells #[.int .u8 6, .int .u32 (tkQ l1), .int .u32 0, .int .u32 (tkQ l1), .int .u32 (hsQ l1), .slice A5 n5 c5, .slice A6 n6 c6] 39 (0, 0)), (B, .cells #[.int .u8 0, .int .u32 0, .int .u32 0, .int .u32 0, .int .u32 0, .slice none 0 0, .slice none 0 0] 39 (0, 0))] [fun X => RfR B X (tkQ l1) (hsQ l1) (plQ l1) ((clQ l1).map toR) (.agg #[.int .u32 (tkQ l1), .int .u32 (hsQ l1), .slice A5 n5 c5, .slice A6 n6 c6])] | _ => fun _ _ => False)
              (fun _ _ _ => True) (fun w => ∃ o, Hp B w00 w [(g5, .cells #[.int .u32 (tkQ l1), .int .u32 (hsQ l1), .slice A5 n5 c5, .slice A6 n6 c6] 37 (0, 0)), (g4, o), (B, .cells #[.int .u8 0, .int .u32 0, .int .u32 0, .int .u32 0, .int .u32 0, .slice none 0 0, .slice none 0 0] 39 (0, 0))] [fun X => RfR B X (tkQ l1) (hsQ l1) (plQ l1) ((clQ l1).map toR) (.agg #[.int .u32 (tkQ l1), .int .u32 (hsQ l1), .slice A5 n5 c5, .slice A6 n6 c6])])
              (fun j =>  none)
              [(0, some 47), (1, some 48), (2, some 49), (3, some 50), (4, none), (5, some 51), (6, none)]
              []
              (by kernel_rfl) (by kernel_rfl) (by kernel_rfl) (by kernel_rfl) (by kernel_rfl) ?z15_3c ?z15_3i ?z15_3b ?z15_3d ?z15_3g ⟨?z15_3t0, ?z15_3t1, ?z15_3t2, ?z15_3t3, ?z15_3t4, ?z15_3t5, ?z15_3t6, trivial⟩ ⟨?z15_3o0, ?z15_3o1, ?z15_3o2, ?z15_3o3, ?z15_3o4, ?z15_3o5, ?z15_3o6, trivial⟩ ?z15_3e
            case z15_3c => exact ⟨_, H4.out.drew⟩
            case z15_3i => exact H4.out.drew
            case z15_3b => intro w w' hb h; obtain ⟨o, h⟩ := h; exact ⟨o, h.call hb⟩
            case z15_3d =>
              intro t rs w w' hb h
              match t, h with
              | 0, h => (replace h : Hp B w00 w [(g5, .cells #[.int .u32 (tkQ l1), .int .u32 (hsQ l1), .slice A5 n5 c5, .slice A6 n6 c6] 37 (0, 0)), (g4, .cells #[.int .u8 6, .int .u32 0, .int .u32 0, .int .u32 0, .int .u32 0, .slice none 0 0, .slice none 0 0] 39 (0, 0)), (B, .cells #[.int .u8 0, .int .u32 0, .int .u32 0, .int .u32 0, .int .u32 0, .slice none 0 0, .slice none 0 0] 39 (0, 0))] [fun X => RfR B X (tkQ l1) (hsQ l1) (plQ l1) ((clQ l1).map toR) (.agg #[.int .u32 (tkQ l1), .int .u32 (hsQ l1), .slice A5 n5 c5, .slice A6 n6 c6])] := h); show Hp B w00 w' [(g5, .cells #[.int .u32 (tkQ l1), .int .u32 (hsQ l1), .slice A5 n5 c5, .slice A6 n6 c6] 37 (0, 0)), (g4, .cells #[.int .u8 6, .int .u32 0, .int .u32 0, .int .u32 0, .int .u32 0, .slice none 0 0, .slice none 0 0] 39 (0, 0)), (B, .cells #[.int .u8 0, .int .u32 0, .int .u32 0, .int .u32 0, .int .u32 0, .slice none 0 0, .slice none 0 0] 39 (0, 0))] [fun X => RfR B X (tkQ l1) (hsQ l1) (plQ l1) ((clQ l1).map toR) (.agg #[.int .u32 (tkQ l1), .int .u32 (hsQ l1), .slice A5 n5 c5, .slice A6 n6 c6])]; exact Hp.call h hb
              | 1, h => (replace h : Hp B w00 w [(g5, .cells #[.int .u32 (tkQ l1), .int .u32 (hsQ l1), .slice A5 n5 c5, .slice A6 n6 c6] 37 (0, 0)), (g4, .cells #[.int .u8 6, .int .u32 0, .int .u32 0, .int .u32 (tkQ l1), .int .u32 (hsQ l1), .slice A5 n5 c5, .slice A6 n6 c6] 39 (0, 0)), (B, .cells #[.int .u8 0, .int .u32 0, .int .u32 0, .int .u32 0, .int .u32 0, .slice none 0 0, .slice none 0 0] 39 (0, 0))] [fun X => RfR B X (tkQ l1) (hsQ l1) (plQ l1) ((clQ l1).map toR) (.agg #[.int .u32 (tkQ l1), .int .u32 (hsQ l1), .slice A5 n5 c5, .slice A6 n6 c6])] := h); show Hp B w00 w' [(g5, .cells #[.int .u32 (tkQ l1), .int .u32 (hsQ l1), .slice A5 n5 c5, .slice A6 n6 c6] 37 (0, 0)), (g4, .cells #[.int .u8 6, .int .u32 0, .int .u32 0, .int .u32 (tkQ l1), .int .u32 (hsQ l1), .slice A5 n5 c5, .slice A6 n6 c6] 39 (0, 0)), (B, .cells #[.int .u8 0, .int .u32 0, .int .u32 0, .int .u32 0, .int .u32 0, .slice none 0 0, .slice none 0 0] 39 (0, 0))] [fun X => RfR B X (tkQ l1) (hsQ l1) (plQ l1) ((clQ l1).map toR) (.agg #[.int .u32 (tkQ l1), .int .u32 (hsQ l1), .slice A5 n5 c5, .slice A6 n6 c6])]; exact Hp.call h hb
              | 2, h => (replace h : Hp B w00 w [(g5, .cells #[.int .u32 (tkQ l1), .int .u32 (hsQ l1), .slice A5 n5 c5, .slice A6 n6 c6] 37 (0, 0)), (g4, .cells #[.int .u8 6, .int .u32 (tkQ l1), .int .u32 0, .int .u32 (tkQ l1), .int .u32 (hsQ l1), .slice A5 n5 c5, .slice A6 n6 c6] 39 (0, 0)), (B, .cells #[.int .u8 0, .int .u32 0, .int .u32 0, .int .u32 0, .int .u32 0, .slice none 0 0, .slice none 0 0] 39 (0, 0))] [fun X => RfR B X (tkQ l1) (hsQ l1) (plQ l1) ((clQ l1).map toR) (.agg #[.int .u32 (tkQ l1), .int .u32 (hsQ l1), .slice A5 n5 c5, .slice A6 n6 c6])] := h); show Hp B w00 w' [(g5, .cells #[.int .u32 (tkQ l1), .int .u32 (hsQ l1), .slice A5 n5 c5, .slice A6 n6 c6] 37 (0, 0)), (g4, .cells #[.int .u8 6, .int .u32 (tkQ l1), .int .u32 0, .int .u32 (tkQ l1), .int .u32 (hsQ l1), .slice A5 n5 c5, .slice A6 n6 c6] 39 (0, 0)), (B, .cells #[.int .u8 0, .int .u32 0, .int .u32 0, .int .u32 0, .int .u32 0, .slice none 0 0, .slice none 0 0] 39 (0, 0))] [fun X => RfR B X (tkQ l1) (hsQ l1) (plQ l1) ((clQ l1).map toR) (.agg #[.int .u32 (tkQ l1), .int .u32 (hsQ l1), .slice A5 n5 c5, .slice A6 n6 c6])]; exact Hp.call h hb
              | _ + 3, h => exact h.elim
            case z15_3g =>
              intro j hj; cases hj
            case z15_3t0 => exact StabS.const _ _ _ _
            case z15_3t1 => exact StabS.const _ _ _ _
            case z15_3t2 => exact StabS.const _ _ _ _
            case z15_3t3 => exact StabS.const _ _ _ _
            case z15_3t4 => exact StabS.const _ _ _ _
            case z15_3t5 => exact StabS.const _ _ _ _
            case z15_3t6 => exact StabS.const _ _ _ _
            case z15_3o0 =>
              intro vs w t hC ht1 ht2 hS hV
              rw [if_pos (by kernel_rfl)]
              generalize hρ : rho _ _ _ vs = ρ
              have e5 : ρ (.tmp 5) = .pointer (some ⟨g5, 0, none⟩) := by rw [← hρ]; kernel_rfl
              clear hρ hV
              obtain ⟨o, hH⟩ := hC
              have c0 := blk_cell (hH.get (i := 0) rfl) 0
              have c1 := blk_cell (hH.get (i := 0) rfl) 1
              have c2 := blk_cell (hH.get (i := 0) rfl) 2
              have c3 := blk_cell (hH.get (i := 0) rfl) 3
              refine runs_val (v := .agg #[.int .u32 (tkQ l1), .int .u32 (hsQ l1), .slice A5 n5 c5, .slice A6 n6 c6]) (w' := w) ?_ ⟨Below.refl _ _, rfl⟩
              clear ht1 ht2 hS hH
              go_simp
            case z15_3o1 =>
              intro vs w t hC ht1 ht2 hS hV
              rw [if_pos (by kernel_rfl)]
              generalize hρ : rho _ _ _ vs = ρ
              have e5 : ρ (.tmp 5) = .pointer (some ⟨g5, 0, none⟩) := by rw [← hρ]; kernel_rfl
              clear hρ hV
              refine runs_val (v := .pointer (some ⟨g5, 0, none⟩)) (w' := w) ?_ ⟨Below.refl _ _, rfl⟩
              clear ht1 ht2 hS hC
              go_simp <;> (first | exact IntWalk.u64_in _ (by omega) | exact IntWalk.u32_in _ (by omega) | exact IntWalk.u16_in _ (by omega) | exact IntWalk.u8_in _ (by omega) | exact IntWalk.i64_in _ (by omega) | skip)
            case z15_3o2 =>
              intro vs w t hC ht1 ht2 hS hV
              rw [if_pos (by kernel_rfl)]
              generalize hρ : rho _ _ _ vs = ρ
              have d48 : (vs 1) = .pointer (some ⟨g5, 0, none⟩) := hV 1 (by kernel_rfl)
              have e48 : ρ (.tmp 48) = vs 1 := by rw [← hρ]; kernel_rfl
              rw [d48] at e48; clear d48
              clear hρ hV
              obtain ⟨o, hH⟩ := hC
              have c0 := blk_cell (hH.get (i := 0) rfl) 0
              refine runs_val (v := .int .u32 (tkQ l1)) (w' := w) ?_ ⟨Below.refl _ _, rfl⟩
              clear ht1 ht2 hS hH
              go_simp
            case z15_3o3 =>
              intro vs w t hC ht1 ht2 hS hV
              rw [if_pos (by kernel_rfl)]
              generalize hρ : rho _ _ _ vs = ρ
              have e4 : ρ (.tmp 4) = .pointer (some ⟨g4, 0, none⟩) := by rw [← hρ]; kernel_rfl
              clear hρ hV
              refine runs_val (v := .pointer (some ⟨g4, 3, none⟩)) (w' := w) ?_ ⟨Below.refl _ _, rfl⟩
              clear ht1 ht2 hS hC
              go_simp <;> (first | exact IntWalk.u64_in _ (by omega) | exact IntWalk.u32_in _ (by omega) | exact IntWalk.u16_in _ (by omega) | exact IntWalk.u8_in _ (by omega) | exact IntWalk.i64_in _ (by omega) | skip)
            case z15_3o4 =>
              intro vs w hC hS hV
              replace hS : Hp B w00 w [(g5, .cells #[.int .u32 (tkQ l1), .int .u32 (hsQ l1), .slice A5 n5 c5, .slice A6 n6 c6] 37 (0, 0)), (g4, .cells #[.int .u8 6, .int .u32 0, .int .u32 0, .int .u32 0, .int .u32 0, .slice none 0 0, .slice none 0 0] 39 (0, 0)), (B, .cells #[.int .u8 0, .int .u32 0, .int .u32 0, .int .u32 0, .int .u32 0, .slice none 0 0, .slice none 0 0] 39 (0, 0))] [fun X => RfR B X (tkQ l1) (hsQ l1) (plQ l1) ((clQ l1).map toR) (.agg #[.int .u32 (tkQ l1), .int .u32 (hsQ l1), .slice A5 n5 c5, .slice A6 n6 c6])] := hS
              rw [if_pos (by kernel_rfl)]
              generalize hρ : rho _ _ _ vs = ρ
              have d50 : (vs 3) = .pointer (some ⟨g4, 3, none⟩) := hV 3 (by kernel_rfl)
              have e50 : ρ (.tmp 50) = vs 3 := by rw [← hρ]; kernel_rfl
              rw [d50] at e50; clear d50
              have d47 : (vs 0) = .agg #[.int .u32 (tkQ l1), .int .u32 (hsQ l1), .slice A5 n5 c5, .slice A6 n6 c6] := hV 0 (by kernel_rfl)
              have e47 : ρ (.tmp 47) = vs 0 := by rw [← hρ]; kernel_rfl
              rw [d47] at e47; clear d47
              clear hρ hV
              have c3 := blk_cell (hS.get (i := 1) rfl) 3
              have c4 := blk_cell (hS.get (i := 1) rfl) 4
              have c5' := blk_cell (hS.get (i := 1) rfl) 5
              have c6' := blk_cell (hS.get (i := 1) rfl) 6
              have f3 := blk_frozen (hS.get (i := 1) rfl) 3
              have f4 := blk_frozen (hS.get (i := 1) rfl) 4
              have f5 := blk_frozen (hS.get (i := 1) rfl) 5
              have f6 := blk_frozen (hS.get (i := 1) rfl) 6
              have hH := (((hS.setCell (i := 1) rfl 3 (.int .u32 (tkQ l1))).setCell (i := 1) rfl 4 (.int .u32 (hsQ l1))).setCell (i := 1) rfl 5 (.slice A5 n5 c5)).setCell (i := 1) rfl 6 (.slice A6 n6 c6)
              refine runs_skip (w' := (((w.setCell ⟨g4, 3, none⟩ (.int .u32 (tkQ l1))).setCell ⟨g4, 4, none⟩ (.int .u32 (hsQ l1))).setCell ⟨g4, 5, none⟩ (.slice A5 n5 c5)).setCell ⟨g4, 6, none⟩ (.slice A6 n6 c6)) ?_ ⟨⟨_, hH⟩, trivial, trivial, hH⟩
              clear hS hC hH
              go_simp
            case z15_3o5 =>
              intro vs w t hC ht1 ht2 hS hV
              rw [if_pos (by kernel_rfl)]
              generalize hρ : rho _ _ _ vs = ρ
              have e4 : ρ (.tmp 4) = .pointer (some ⟨g4, 0, none⟩) := by rw [← hρ]; kernel_rfl
              clear hρ hV
              refine runs_val (v := .pointer (some ⟨g4, 1, none⟩)) (w' := w) ?_ ⟨Below.refl _ _, rfl⟩
              clear ht1 ht2 hS hC
              go_simp <;> (first | exact IntWalk.u64_in _ (by omega) | exact IntWalk.u32_in _ (by omega) | exact IntWalk.u16_in _ (by omega) | exact IntWalk.u8_in _ (by omega) | exact IntWalk.i64_in _ (by omega) | skip)
            case z15_3o6 =>
              intro vs w hC hS hV
              replace hS : Hp B w00 w [(g5, .cells #[.int .u32 (tkQ l1), .int .u32 (hsQ l1), .slice A5 n5 c5, .slice A6 n6 c6] 37 (0, 0)), (g4, .cells #[.int .u8 6, .int .u32 0, .int .u32 0, .int .u32 (tkQ l1), .int .u32 (hsQ l1), .slice A5 n5 c5, .slice A6 n6 c6] 39 (0, 0)), (B, .cells #[.int .u8 0, .int .u32 0, .int .u32 0, .int .u32 0, .int .u32 0, .slice none 0 0, .slice none 0 0] 39 (0, 0))] [fun X => RfR B X (tkQ l1) (hsQ l1) (plQ l1) ((clQ l1).map toR) (.agg #[.int .u32 (tkQ l1), .int .u32 (hsQ l1), .slice A5 n5 c5, .slice A6 n6 c6])] := hS
              rw [if_pos (by kernel_rfl)]
              generalize hρ : rho _ _ _ vs = ρ
              have d51 : (vs 5) = .pointer (some ⟨g4, 1, none⟩) := hV 5 (by kernel_rfl)
              have e51 : ρ (.tmp 51) = vs 5 := by rw [← hρ]; kernel_rfl
              rw [d51] at e51; clear d51
              have d49 : (vs 2) = .int .u32 (tkQ l1) := hV 2 (by kernel_rfl)
              have e49 : ρ (.tmp 49) = vs 2 := by rw [← hρ]; kernel_rfl
              rw [d49] at e49; clear d49
              clear hρ hV
              have c1 := blk_cell (hS.get (i := 1) rfl) 1
              have f1 := blk_frozen (hS.get (i := 1) rfl) 1
              have hH := hS.setCell (i := 1) rfl 1 (.int .u32 (tkQ l1))
              refine runs_skip (w' := w.setCell ⟨g4, 1, none⟩ (.int .u32 (tkQ l1))) ?_ ⟨⟨_, hH⟩, trivial, trivial, hH⟩
              clear hS hC hH
              go_simp
            case z15_3e =>
              intro vs W7 hC hS hV
              replace hS : (fun (w : World) => Hp B w00 w [(g5, .cells #[.int .u32 (tkQ l1), .int .u32 (hsQ l1), .slice A5 n5 c5, .slice A6 n6 c6] 37 (0, 0)), (g4, .cells #[.int .u8 6, .int .u32 (tkQ l1), .int .u32 0, .int .u32 (tkQ l1), .int .u32 (hsQ l1), .slice A5 n5 c5, .slice A6 n6 c6] 39 (0, 0)), (B, .cells #[.int .u8 0, .int .u32 0, .int .u32 0, .int .u32 0, .int .u32 0, .slice none 0 0, .slice none 0 0] 39 (0, 0))] [fun X => RfR B X (tkQ l1) (hsQ l1) (plQ l1) ((clQ l1).map toR) (.agg #[.int .u32 (tkQ l1), .int .u32 (hsQ l1), .slice A5 n5 c5, .slice A6 n6 c6])]) W7 := hS
              have d47 : (vs 0) = .agg #[.int .u32 (tkQ l1), .int .u32 (hsQ l1), .slice A5 n5 c5, .slice A6 n6 c6] := hV 0 (Nat.le_of_ble_eq_true rfl)
              have d48 : (vs 1) = .pointer (some ⟨g5, 0, none⟩) := hV 1 (Nat.le_of_ble_eq_true rfl)
              have d49 : (vs 2) = .int .u32 (tkQ l1) := hV 2 (Nat.le_of_ble_eq_true rfl)
              have d50 : (vs 3) = .pointer (some ⟨g4, 3, none⟩) := hV 3 (Nat.le_of_ble_eq_true rfl)
              have d51 : (vs 5) = .pointer (some ⟨g4, 1, none⟩) := hV 5 (Nat.le_of_ble_eq_true rfl)
              clear hV
              simp only [putAll]
              rw [d47, d48, d49, d50, d51]
              clear d47 d48 d49 d50 d51
              generalize vs 4 = vN4
              generalize vs 6 = vN6
              clear vs
              simp only [Act.put, List.setIfInBounds_toArray, List.set_cons_zero, List.set_cons_succ]
              have H7 := Aside0.mk hS
              clear hS hC H4
              have HRQ : Aside0 (readR (6 :: l1) = ⟨true, 6, tkQ l1, 0, tkQ l1, hsQ l1, plQ l1, clQ l1⟩) := ⟨by rw [readR_five _ (by decide) (by decide), if_pos HBE.out]⟩
              go_wp2_with (first | (refine wpList_load_row_g 39 (.tmp 4) rfl g4 rfl rfl 39 _ (0, 0) _ (H7.out.get (i := 1) rfl) Try.underlying39 rfl (rmsg_info _ _ _ _ _ _ _) ?_) | (refine wpList_store_row rfl 39 (.tmp 2) (.tmp 52) rfl B #[.int .u8 6, .int .u32 (tkQ l1), .int .u32 0, .int .u32 (tkQ l1), .int .u32 (hsQ l1), .slice A5 n5 c5, .slice A6 n6 c6] rfl rfl 39 _ (H7.out.get (i := 2) rfl) (rmsg_info _ _ _ _ _ _ _) rfl (by simp [Value.oneCell']) ?_))
              have H9 := Aside0.mk (H7.out.setRow (i := 2) rfl #[.int .u8 6, .int .u32 (tkQ l1), .int .u32 0, .int .u32 (tkQ l1), .int .u32 (hsQ l1), .slice A5 n5 c5, .slice A6 n6 c6])
              refine bodyPost_ret (results_ct rfl _ _ B _ #[.int .u8 6, .int .u32 (tkQ l1), .int .u32 0, .int .u32 (tkQ l1), .int .u32 (hsQ l1), .slice A5 n5 c5, .slice A6 n6 c6] (0, 0) _ rfl (H9.out.get (i := 2) rfl) Try.underlying39 rfl (rmsg_info _ _ _ _ _ _ _)) rfl ?_
              exact ⟨RReadM.of HRQ.out (RfR.msg (H9.out.fact (i := 0) rfl)), H9.out.bel⟩
        · skip
          by_cases h134 : x = 1 ∨ x = 3 ∨ x = 4
          · by_cases h1 : n = 1
            · subst h1
              have HRQ : Aside0 (readR (x :: l1) = ⟨true, x, 0, 0, 0, 0, [], []⟩) := ⟨by rw [readR_oth _ h2 (by omega), if_pos h134, if_pos (by have := HL1.out; omega)]⟩
              rcases h134 with rfl | rfl | rfl
              · go_wp2_with (first | (refine wpList_load_row_g 39 (.tmp 4) rfl g4 rfl rfl 39 _ (0, 0) _ (H1.out.get (i := 0) rfl) Try.underlying39 rfl (rmsg_info _ _ _ _ _ _ _) ?_) | (refine wpList_store_row rfl 39 (.tmp 2) (.tmp 60) rfl B #[.int .u8 1, .int .u32 0, .int .u32 0, .int .u32 0, .int .u32 0, .slice none 0 0, .slice none 0 0] rfl rfl 39 _ (H1.out.get (i := 1) rfl) (rmsg_info _ _ _ _ _ _ _) rfl (by simp [Value.oneCell']) ?_))
                have H9 := Aside0.mk (H1.out.setRow (i := 1) rfl #[.int .u8 1, .int .u32 0, .int .u32 0, .int .u32 0, .int .u32 0, .slice none 0 0, .slice none 0 0])
                refine bodyPost_ret (results_ct rfl _ _ B _ #[.int .u8 1, .int .u32 0, .int .u32 0, .int .u32 0, .int .u32 0, .slice none 0 0, .slice none 0 0] (0, 0) _ rfl (H9.out.get (i := 1) rfl) Try.underlying39 rfl (rmsg_info _ _ _ _ _ _ _)) rfl ?_
                exact ⟨RReadM.of HRQ.out (MrC_zero _ 1 0 0), H9.out.bel⟩
              · go_wp2_with (first | (refine wpList_load_row_g 39 (.tmp 4) rfl g4 rfl rfl 39 _ (0, 0) _ (H1.out.get (i := 0) rfl) Try.underlying39 rfl (rmsg_info _ _ _ _ _ _ _) ?_) | (refine wpList_store_row rfl 39 (.tmp 2) (.tmp 60) rfl B #[.int .u8 3, .int .u32 0, .int .u32 0, .int .u32 0, .int .u32 0, .slice none 0 0, .slice none 0 0] rfl rfl 39 _ (H1.out.get (i := 1) rfl) (rmsg_info _ _ _ _ _ _ _) rfl (by simp [Value.oneCell']) ?_))
                have H9 := Aside0.mk (H1.out.setRow (i := 1) rfl #[.int .u8 3, .int .u32 0, .int .u32 0, .int .u32 0, .int .u32 0, .slice none 0 0, .slice none 0 0])
                refine bodyPost_ret (results_ct rfl _ _ B _ #[.int .u8 3, .int .u32 0, .int .u32 0, .int .u32 0, .int .u32 0, .slice none 0 0, .slice none 0 0] (0, 0) _ rfl (H9.out.get (i := 1) rfl) Try.underlying39 rfl (rmsg_info _ _ _ _ _ _ _)) rfl ?_
                exact ⟨RReadM.of HRQ.out (MrC_zero _ 3 0 0), H9.out.bel⟩
              · go_wp2_with (first | (refine wpList_load_row_g 39 (.tmp 4) rfl g4 rfl rfl 39 _ (0, 0) _ (H1.out.get (i := 0) rfl) Try.underlying39 rfl (rmsg_info _ _ _ _ _ _ _) ?_) | (refine wpList_store_row rfl 39 (.tmp 2) (.tmp 60) rfl B #[.int .u8 4, .int .u32 0, .int .u32 0, .int .u32 0, .int .u32 0, .slice none 0 0, .slice none 0 0] rfl rfl 39 _ (H1.out.get (i := 1) rfl) (rmsg_info _ _ _ _ _ _ _) rfl (by simp [Value.oneCell']) ?_))
                have H9 := Aside0.mk (H1.out.setRow (i := 1) rfl #[.int .u8 4, .int .u32 0, .int .u32 0, .int .u32 0, .int .u32 0, .slice none 0 0, .slice none 0 0])
                refine bodyPost_ret (results_ct rfl _ _ B _ #[.int .u8 4, .int .u32 0, .int .u32 0, .int .u32 0, .int .u32 0, .slice none 0 0, .slice none 0 0] (0, 0) _ rfl (H9.out.get (i := 1) rfl) Try.underlying39 rfl (rmsg_info _ _ _ _ _ _ _)) rfl ?_
                exact ⟨RReadM.of HRQ.out (MrC_zero _ 4 0 0), H9.out.bel⟩
            · have h1j : ¬ (n : Int) = 1 := by omega
              have h1i : ((n : Int) == 1) = false := by simpa using h1j
              have HRQ : Aside0 (readR (x :: l1) = badR) := ⟨by rw [readR_oth _ h2 (by omega), if_pos h134, if_neg (by have := HL1.out; omega)]⟩
              rcases h134 with rfl | rfl | rfl
              · go_wp2_with (first | (refine wpList_store_row rfl 39 (.tmp 2) (.tmp 61) rfl B #[.int .u8 0, .int .u32 0, .int .u32 0, .int .u32 0, .int .u32 0, .slice none 0 0, .slice none 0 0] rfl rfl 39 _ (H1.out.get (i := 1) rfl) (rmsg_info _ _ _ _ _ _ _) rfl (by simp [Value.oneCell']) ?_))
                have H9 := Aside0.mk (H1.out.setRow (i := 1) rfl #[.int .u8 0, .int .u32 0, .int .u32 0, .int .u32 0, .int .u32 0, .slice none 0 0, .slice none 0 0])
                refine bodyPost_ret (results_ct rfl _ _ B _ #[.int .u8 0, .int .u32 0, .int .u32 0, .int .u32 0, .int .u32 0, .slice none 0 0, .slice none 0 0] (0, 0) _ rfl (H9.out.get (i := 1) rfl) Try.underlying39 rfl (rmsg_info _ _ _ _ _ _ _)) rfl ?_
                exact ⟨RReadM.of HRQ.out (MrC_zero _ 0 0 0), H9.out.bel⟩
              · go_wp2_with (first | (refine wpList_store_row rfl 39 (.tmp 2) (.tmp 61) rfl B #[.int .u8 0, .int .u32 0, .int .u32 0, .int .u32 0, .int .u32 0, .slice none 0 0, .slice none 0 0] rfl rfl 39 _ (H1.out.get (i := 1) rfl) (rmsg_info _ _ _ _ _ _ _) rfl (by simp [Value.oneCell']) ?_))
                have H9 := Aside0.mk (H1.out.setRow (i := 1) rfl #[.int .u8 0, .int .u32 0, .int .u32 0, .int .u32 0, .int .u32 0, .slice none 0 0, .slice none 0 0])
                refine bodyPost_ret (results_ct rfl _ _ B _ #[.int .u8 0, .int .u32 0, .int .u32 0, .int .u32 0, .int .u32 0, .slice none 0 0, .slice none 0 0] (0, 0) _ rfl (H9.out.get (i := 1) rfl) Try.underlying39 rfl (rmsg_info _ _ _ _ _ _ _)) rfl ?_
                exact ⟨RReadM.of HRQ.out (MrC_zero _ 0 0 0), H9.out.bel⟩
              · go_wp2_with (first | (refine wpList_store_row rfl 39 (.tmp 2) (.tmp 61) rfl B #[.int .u8 0, .int .u32 0, .int .u32 0, .int .u32 0, .int .u32 0, .slice none 0 0, .slice none 0 0] rfl rfl 39 _ (H1.out.get (i := 1) rfl) (rmsg_info _ _ _ _ _ _ _) rfl (by simp [Value.oneCell']) ?_))
                have H9 := Aside0.mk (H1.out.setRow (i := 1) rfl #[.int .u8 0, .int .u32 0, .int .u32 0, .int .u32 0, .int .u32 0, .slice none 0 0, .slice none 0 0])
                refine bodyPost_ret (results_ct rfl _ _ B _ #[.int .u8 0, .int .u32 0, .int .u32 0, .int .u32 0, .int .u32 0, .slice none 0 0, .slice none 0 0] (0, 0) _ rfl (H9.out.get (i := 1) rfl) Try.underlying39 rfl (rmsg_info _ _ _ _ _ _ _)) rfl ?_
                exact ⟨RReadM.of HRQ.out (MrC_zero _ 0 0 0), H9.out.bel⟩
          · have hx1 : ¬ x = 1 := fun e => h134 (.inl e)
            have hx3 : ¬ x = 3 := fun e => h134 (.inr (.inl e))
            have hx4 : ¬ x = 4 := fun e => h134 (.inr (.inr e))
            have HRQ : Aside0 (readR (x :: l1) = badR) := ⟨by rw [readR_oth _ h2 (by omega), if_neg h134]⟩
            go_wp2_with (first | (refine wpList_store_row rfl 39 (.tmp 2) (.tmp 61) rfl B #[.int .u8 0, .int .u32 0, .int .u32 0, .int .u32 0, .int .u32 0, .slice none 0 0, .slice none 0 0] rfl rfl 39 _ (H1.out.get (i := 1) rfl) (rmsg_info _ _ _ _ _ _ _) rfl (by simp [Value.oneCell']) ?_))
            have H9 := Aside0.mk (H1.out.setRow (i := 1) rfl #[.int .u8 0, .int .u32 0, .int .u32 0, .int .u32 0, .int .u32 0, .slice none 0 0, .slice none 0 0])
            refine bodyPost_ret (results_ct rfl _ _ B _ #[.int .u8 0, .int .u32 0, .int .u32 0, .int .u32 0, .int .u32 0, .slice none 0 0, .slice none 0 0] (0, 0) _ rfl (H9.out.get (i := 1) rfl) Try.underlying39 rfl (rmsg_info _ _ _ _ _ _ _)) rfl ?_
            exact ⟨RReadM.of HRQ.out (MrC_zero _ 0 0 0), H9.out.bel⟩
end Go.Proofs.Yticpjidcgaaldaa

namespace Go.Proofs.Yticpjidcgaaldaa
open Go.RowKit Go.Proofs.YticpjidcgaaldaaW.PrintWords Go.Proofs.YticpjidcgaaldaaW.PrintLast Go.Proofs.YticpjidcgaaldaaW.PrintMore
set_option linter.unusedVariables false
set_option linter.unusedSimpArgs false

structure S28 where
  f0 : Int
  f1 : Int
  f2 : Int
  f3 : S26
def k28 : Kd S28 := Kd.iso (Kd.pair (Kd.int .u8) (Kd.pair (Kd.int .u32) (Kd.pair (Kd.int .u32) k26))) (fun x : S28 => (x.f0, x.f1, x.f2, x.f3))
def OkMs (x : S28) : Prop := (Lit.int .u8 x.f0).wf = true ∧ (Lit.int .u32 x.f1).wf = true ∧ (Lit.int .u32 x.f2).wf = true ∧ OkD x.f3
theorem msg_in {w : World} {x : S28} {cs : List Value} (h : k28.K w x cs) : MsC w x.f0 x.f1 x.f2 x.f3.f0 x.f3.f1 x.f3.f2 x.f3.f3 (.agg cs.toArray) := by
  obtain ⟨_, _, rfl, rfl, _, _, rfl, rfl, _, _, rfl, rfl, h2⟩ := h
  obtain ⟨A, c, A2, c2, he, k1, k2, k3, k4⟩ := delta_in h2
  injection he with he
  have he := congrArg Array.toList he
  simp only [] at he
  subst he
  exact ⟨A, c, A2, c2, rfl, k1, k2, k3, k4⟩
theorem rows_at {w : World} {g n e : Nat} {xs : List (List Int)} (h : (Kd.slice e (Kd.int .u8)).C w (some ⟨g, 0, none⟩) n xs) (j : Nat) (hj : j < xs.length) : ∃ A c, w.cell? ⟨g, j, none⟩ = some (.slice A xs[j].length c) ∧ xs[j].length ≤ c ∧ (Kd.int .u8).C w A xs[j].length xs[j] := by
  have hn := h.1
  obtain ⟨ad, cs, e1, _, hK, hc⟩ := Kd.C_get h ([] : List Int) (j : Int) (by omega) (by omega)
  rw [Int.toNat_natCast, List.getD_eq_getElem?_getD, List.getElem?_eq_getElem hj] at hK
  obtain ⟨A, c, rfl, h1, h2⟩ := hK
  have := hc 0 _ rfl
  obtain rfl := Option.some.inj e1
  refine ⟨A, c, ?_, h1, h2⟩
  have hz : (Kd.slice e (Kd.int .u8)).sz = 1 := rfl
  rw [hz, Nat.mul_one, Nat.add_zero, add_plain] at this
  exact this
theorem C_of_four {α : Type} {d : Kd α} {e : Nat} {w : World} {g : Nat} {t : TypeId} {fr : Nat × Nat} {A B D E : Option Addr} {n m p q c c' c'' c3 : Nat} {x y z u : List α} (hg : w.heap[g]? = some (.cells #[.slice A n c, .slice B m c', .slice D p c'', .slice E q c3] t fr))
    (hx : d.C w A n x) (hc : n ≤ c) (hy : d.C w B m y) (hc' : m ≤ c') (hz : d.C w D p z) (hc'' : p ≤ c'') (hu : d.C w E q u) (hc3 : q ≤ c3) : (Kd.slice e d).C w (some ⟨g, 0, none⟩) 4 [x, y, z, u] := by
  obtain rfl := hx.1
  obtain rfl := hy.1
  obtain rfl := hz.1
  obtain rfl := hu.1
  refine C_of_rows hg rfl (by omega) fun j p hj => ?_
  match j with
  | 0 => obtain rfl : x = p := by simpa using hj
         exact ⟨A, c, rfl, hc, hx⟩
  | 1 => obtain rfl : y = p := by simpa using hj
         exact ⟨B, c', rfl, hc', hy⟩
  | 2 => obtain rfl : z = p := by simpa using hj
         exact ⟨D, c'', rfl, hc'', hz⟩
  | 3 => obtain rfl : u = p := by simpa using hj
         exact ⟨E, c3, rfl, hc3, hu⟩
  | j + 4 => simp at hj
theorem Hp.both {B : Nat} {w0 W : World} {L : List (Nat × Obj)} {F : List (World → Prop)} {φ ψ : World → Prop} (h1 : Hp B w0 W L (φ :: F)) (h2 : Hp B w0 W L (ψ :: F)) : Hp B w0 W L (φ :: ψ :: F) :=
  ⟨h1.1, h1.2.1, h1.2.2.1, h1.2.2.2.1, fun χ hχ W' ho => by
    rcases List.mem_cons.1 hχ with rfl | hχ
    · exact h1.2.2.2.2 _ List.mem_cons_self W' ho
    · exact h2.2.2.2.2 _ hχ W' ho⟩
theorem few11R_any (k t m tk hs : Int) (P : List Int) (C : List S59) (v : Value) (w : World) (hv : MsC w k t m tk hs P C v) :
    Calls Try.prog 11 #[v] w fun e w' => ∃ x y, e = .returned (.agg #[.int .u8 k, .int .u32 t, .int .u32 m, .int .u32 tk, .int .u32 hs, x, y]) ∧ (Kd.int .u8).R 5 w' w.heap.size (fun _ => True) x (P.take 60) ∧ k59.R 59 w' w.heap.size (fun _ => True) y (C.take 60) ∧ Below w.heap.size w w' := by
  obtain ⟨A, c, A2, c2, rfl, h2, h3, h4, h5⟩ := hv
  refine (hoodwinklaw11_few.calls (P.length + 1) k t m tk hs A c P A2 c2 C k t m tk hs (P.take 60) (C.take 60) w h4 h2 h5 h3 (few11_f k t m tk hs P C h4.2.1)).mono ?_
  rintro e w' ⟨v5, v6, rfl, r5, r6, hb⟩
  exact ⟨v5, v6, rfl, r5, r6, hb⟩
theorem ex_bool (p : Prop) : ∃ β : Bool, β = true ↔ p := by
  rcases Classical.em p with h | h
  · exact ⟨true, iff_of_true rfl h⟩
  · exact ⟨false, iff_of_false (by decide) h⟩
theorem toR_one {a b : S59} (h : toR a = toR b) : a = b := by
  unfold toR at h
  injection h with h1 h2
  cases a; cases b; simp_all
theorem mapR_inj {C C' : List S59} : C.map toR = C'.map toR ↔ C = C' := ⟨fun h => (List.map_inj_right (fun _ _ e => toR_one e)).1 h, fun h => by rw [h]⟩
theorem mBytes_no {k t m tk hs : Int} {P : List Int} {C : List S59} (h : rightM k t m tk hs P C = false) : mBytes k t m tk hs P C = [] := by unfold mBytes; rw [if_neg (by rw [h]; decide)]
theorem mBytes_yes {k t m tk hs : Int} {P : List Int} {C : List S59} (h : rightM k t m tk hs P C = true) : mBytes k t m tk hs P C = mSay k t m tk hs P C := by unfold mBytes; rw [if_pos h]
theorem mSay_pos (k t m tk hs : Int) (P : List Int) (C : List S59) : 1 ≤ (mSay k t m tk hs P C).length ∧ (mSay k t m tk hs P C).length ≤ 10 + 9 * P.length := by
  unfold mSay
  have h1 := pbD_le tk.toNat hs.toNat P C
  split
  · simp only [List.length_append, lowN_length, List.length_cons, List.length_nil]; omega
  · split
    · simp only [List.length_append, List.length_cons, List.length_nil]; omega
    · simp only [List.length_cons, List.length_nil]; omega
theorem mSay_bytes {k t m tk hs : Int} {P : List Int} {C : List S59} (hk : 0 ≤ k ∧ k < 256) (hP : Bytes P) : Bytes (mSay k t m tk hs P C) := by
  have h1 : Bytes [k] := fun x hx => by obtain rfl := List.mem_singleton.1 hx; exact hk
  unfold mSay
  split
  · exact (h1.append (lowN_bytes _ _)).append (lowN_bytes _ _)
  · split
    · exact h1.append (pbD_bytes _ _ _ _ hP)
    · exact h1
theorem mSay_read {k t m tk hs : Int} {P : List Int} {C : List S59} (hk : OkM k t m tk hs P C) (h : rightM k t m tk hs P C = true) : readR (mSay k t m tk hs P C) = ⟨true, k, t, m, tk, hs, P, C⟩ := by
  obtain ⟨tn, rfl⟩ : ∃ x : Nat, t = (x : Int) := ⟨t.toNat, by have := hk.2.1; omega⟩
  obtain ⟨mn, rfl⟩ : ∃ x : Nat, m = (x : Int) := ⟨m.toNat, by have := hk.2.2.1; omega⟩
  obtain ⟨tkn, rfl⟩ : ∃ x : Nat, tk = (x : Int) := ⟨tk.toNat, by have := hk.2.2.2.1; omega⟩
  obtain ⟨hsn, rfl⟩ : ∃ x : Nat, hs = (x : Int) := ⟨hs.toNat, by have := hk.2.2.2.2.1; omega⟩
  have htn : tn < 4294967296 := by have := hk.2.1; omega
  have hmn : mn < 4294967296 := by have := hk.2.2.1; omega
  have htkn : tkn < 4294967296 := by have := hk.2.2.2.1; omega
  have hhsn : hsn < 4294967296 := by have := hk.2.2.2.2.1; omega
  unfold rightM at h
  unfold mSay
  by_cases h2 : k = 2
  · subst h2
    rw [if_neg (by omega), if_pos rfl, isZ_iff] at h
    obtain ⟨h3, h4, rfl, rfl⟩ := h
    rw [if_pos rfl, Int.toNat_natCast, Int.toNat_natCast, h3, h4]
    rw [show [(2 : Int)] ++ lowN tn 4 ++ lowN mn 4 = 2 :: (lowN tn 4 ++ lowN mn 4) by simp, readR_two, if_pos (by rw [List.length_append, lowN_length, lowN_length])]
    rw [List.take_left' (lowN_length _ _), List.drop_left' (lowN_length _ _), List.take_of_length_le (by rw [lowN_length]; exact Nat.le_refl _), leN_low 4 tn (by omega), leN_low 4 mn (by omega)]
  · rw [if_neg h2]
    by_cases h5 : k = 5 ∨ k = 6
    · rw [if_neg (by omega), if_neg h2, if_pos h5] at h
      simp only [Bool.and_eq_true, decide_eq_true_eq] at h
      obtain ⟨h6, h7, h8⟩ := h
      have hmz : mn = 0 := by omega
      have htt : tkn = tn := by omega
      subst hmz htt
      obtain ⟨k1, k2, k3, k4, k5⟩ := parse_back tkn hsn P C h8 htkn hhsn hk.2.2.2.2.2.2.1
      rw [if_pos h5, Int.toNat_natCast, Int.toNat_natCast]
      unfold pbD
      rw [if_pos h8, show [k] ++ dBytes tkn hsn P C = k :: dBytes tkn hsn P C by rfl, readR_five _ h2 h5, if_pos k1]
      unfold tkQ hsQ plQ clQ
      rw [if_pos k1, if_pos k1, if_pos k1, if_pos k1, k2, k3, k4, k5]
      rfl
    · rw [if_neg h5]
      by_cases h1 : k = 1 ∨ k = 3 ∨ k = 4
      · rw [if_pos h1] at h
        simp only [Bool.and_eq_true, decide_eq_true_eq] at h
        obtain ⟨h6, h7, h8⟩ := h
        obtain ⟨h3, h4, rfl, rfl⟩ := (isZ_iff _ _ _ _).1 h6
        rw [readR_oth _ h2 h5, if_pos h1, if_pos (show ([] : List Int).length = 0 from rfl), h3, h4, h7, h8]
      · rw [if_neg h1, if_neg h2, if_neg h5] at h
        cases h
theorem readR_ok (q : List Int) (hq : Bytes q) : Bytes (readR q).P ∧ (readR q).C.length ≤ 300 := by
  have hbad : Bytes badR.P ∧ badR.C.length ≤ 300 := ⟨Bytes.nil, by decide⟩
  cases q with
  | nil => exact hbad
  | cons x r =>
    have hr : Bytes r := fun y hy => hq y (List.mem_cons_of_mem _ hy)
    by_cases h2 : x = 2
    · subst h2
      rw [readR_two]
      split
      · exact ⟨Bytes.nil, by simp⟩
      · exact hbad
    · by_cases h5 : x = 5 ∨ x = 6
      · rw [readR_five _ h2 h5]
        split
        · refine ⟨?_, clQ_300 r hr⟩
          show Bytes (plQ r)
          unfold plQ
          by_cases hk : okD r = true
          · rw [if_pos hk]; exact pL_bytes (hr.drop 9) _
          · rw [if_neg hk]; exact Bytes.nil
        · exact hbad
      · rw [readR_oth _ h2 h5]
        split
        · split
          · exact ⟨Bytes.nil, by simp⟩
          · exact hbad
        · exact hbad
set_option maxRecDepth 100000 in
set_option maxHeartbeats 32000000 in
theorem says_walk (x : S28) (cs : List Value) (A : Option Addr) (n c : Nat) (l : List Int) (a0 t0 : Int) (y : S28) (ys : List Value) (w00 : World) (hK : k28.K w00 x cs) (hx : OkMs x) (hr : (Kd.int .u8).C w00 A n l) (hc : n ≤ c) (hl : Bytes l) (hA : 0 ≤ a0 ∧ a0 ≤ 65535) (hT : 0 ≤ t0 ∧ t0 ≤ 255) (hK2 : k28.K w00 y ys) (hy : OkMs y) :
    Calls Try.prog 3 #[.agg cs.toArray, .slice A n c, .int .u16 a0, .int .u8 t0, .agg ys.toArray] w00 fun e w' => e = .returned (.bool true) ∧ Below w00.heap.size w00 w' := by
  obtain ⟨kd, tc, m, tk, hs, P1, C1⟩ := x
  have hM1 := msg_in hK
  obtain ⟨k0, k1, k2, k3, k4, k5, k6⟩ := hx
  have b0 := bounds_u8 k0
  have b1 := bounds_u32 k1
  have b2 := bounds_u32 k2
  have b3 := bounds_u32 k3
  have b4 := bounds_u32 k4
  simp only at hM1 b0 b1 b2 b3 b4 k5 k6
  obtain ⟨P, hP1⟩ : ∃ P, P1.take 60 = P := ⟨_, rfl⟩
  obtain ⟨C, hC1⟩ : ∃ C, C1.take 60 = C := ⟨_, rfl⟩
  have HOK : Aside0 (OkM kd tc m tk hs P C ∧ P.length ≤ 60 ∧ C.length ≤ 60) := ⟨by
    have e1 : P.length ≤ 60 := by rw [← hP1]; exact List.length_take_le _ _
    have e2 : C.length ≤ 60 := by rw [← hC1]; exact List.length_take_le _ _
    refine ⟨⟨by omega, by omega, by omega, by omega, by omega, (fun b hb => by rw [← hP1] at hb; have := bounds_u8 (k5 b (List.mem_of_mem_take hb)); omega), (fun y hy => by rw [← hC1] at hy; exact ⟨(k6 y (List.mem_of_mem_take hy)).i32p, (k6 y (List.mem_of_mem_take hy)).u32⟩), by omega, by omega⟩, e1, e2⟩⟩
  clear b0 b1 b2 b3 b4 k0 k1 k2 k3 k4 k5 k6 hK
  obtain ⟨kd', tc', m', tk', hs', P2, C2⟩ := y
  have hM2 := msg_in hK2
  obtain ⟨k0, k1, k2, k3, k4, k5, k6⟩ := hy
  have b0 := bounds_u8 k0
  have b1 := bounds_u32 k1
  have b2 := bounds_u32 k2
  have b3 := bounds_u32 k3
  have b4 := bounds_u32 k4
  simp only at hM2 b0 b1 b2 b3 b4 k5 k6
  obtain ⟨P', hP2⟩ : ∃ P, P2.take 60 = P := ⟨_, rfl⟩
  obtain ⟨C', hC2⟩ : ∃ C, C2.take 60 = C := ⟨_, rfl⟩
  have HOK' : Aside0 (OkM kd' tc' m' tk' hs' P' C' ∧ P'.length ≤ 60 ∧ C'.length ≤ 60) := ⟨by
    have e1 : P'.length ≤ 60 := by rw [← hP2]; exact List.length_take_le _ _
    have e2 : C'.length ≤ 60 := by rw [← hC2]; exact List.length_take_le _ _
    refine ⟨⟨by omega, by omega, by omega, by omega, by omega, (fun b hb => by rw [← hP2] at hb; have := bounds_u8 (k5 b (List.mem_of_mem_take hb)); omega), (fun y hy => by rw [← hC2] at hy; exact ⟨(k6 y (List.mem_of_mem_take hy)).i32p, (k6 y (List.mem_of_mem_take hy)).u32⟩), by omega, by omega⟩, e1, e2⟩⟩
  clear b0 b1 b2 b3 b4 k0 k1 k2 k3 k4 k5 k6 hK2
  obtain ⟨B, hB⟩ : ∃ B, w00.heap.size = B := ⟨_, rfl⟩
  have KF1 : Aside0 (∀ z, Below B w00 z → ∀ v, v = Value.agg cs.toArray → _) := ⟨fun z hz v hv => few11R_any kd tc m tk hs P1 C1 v z (by rw [hv]; exact hM1.below (hB ▸ hz))⟩
  have KF2 : Aside0 (∀ z, Below B w00 z → ∀ v, v = Value.agg ys.toArray → _) := ⟨fun z hz v hv => few11R_any kd' tc' m' tk' hs' P2 C2 v z (by rw [hv]; exact hM2.below (hB ▸ hz))⟩
  rw [hP1, hC1] at KF1
  rw [hP2, hC2] at KF2
  obtain ⟨A1, c1, A2, c2, he1, _⟩ := hM1
  obtain ⟨A3, c3, A4, c4, he2, _⟩ := hM2
  obtain ⟨n1, hn1⟩ : ∃ n, P1.length = n := ⟨_, rfl⟩
  obtain ⟨n2, hn2⟩ : ∃ n, C1.length = n := ⟨_, rfl⟩
  obtain ⟨n3, hn3⟩ : ∃ n, P2.length = n := ⟨_, rfl⟩
  obtain ⟨n4, hn4⟩ : ∃ n, C2.length = n := ⟨_, rfl⟩
  rw [hn1, hn2] at he1
  rw [hn3, hn4] at he2
  rw [he1] at KF1
  rw [he2] at KF2
  rw [he1, he2]
  obtain ⟨gb, hgb⟩ : ∃ g, B + 1 = g := ⟨_, rfl⟩
  have H0 := Aside0.mk (((Hp.start w00).allocAt (.cells #[.int .u8 kd, .int .u32 tc, .int .u32 m, .int .u32 tk, .int .u32 hs, .slice A1 n1 c1, .slice A2 n2 c2] 28) B hB).allocAt (.cells #[.int .u8 kd', .int .u32 tc', .int .u32 m', .int .u32 tk', .int .u32 hs', .slice A3 n3 c3, .slice A4 n4 c4] 28) gb (by rw [← hgb, ← hB]; simp))
  rw [hB] at H0
  rw [hB]
  obtain ⟨Q, hQ⟩ : ∃ Q, l.take 40 = Q := ⟨_, rfl⟩
  have HQB : Aside0 (Bytes Q ∧ Q.length ≤ 40) := ⟨by rw [← hQ]; exact ⟨hl.take 40, List.length_take_le _ _⟩⟩
  have HF : Aside0 (∀ z, Below B w00 z → (Kd.int .u8).C z A n l) := ⟨fun z hz => Kd.C_below hr (hB ▸ hz)⟩
  have KC3 := Aside0.mk (fun (z : World) (h : (Kd.int .u8).C z A n l) => cut_any A n c l 40 z h hc (by omega))
  rw [show (40 : Int).toNat = 40 from rfl, hQ] at KC3
  obtain ⟨a, rfl⟩ : ∃ x : Nat, a0 = (x : Int) := ⟨a0.toNat, by omega⟩
  obtain ⟨tn, rfl⟩ : ∃ x : Nat, t0 = (x : Int) := ⟨t0.toNat, by omega⟩
  have HAT : Aside0 (a ≤ 65535 ∧ tn ≤ 255) := ⟨by omega, by omega⟩
  have HBB := Aside0.mk hB
  clear he1 he2 hn1 hn2 hn3 hn4 hP1 hC1 hP2 hC2 hQ hA hT hr hc hl
  go_enter Try.func3, Try.ntmps3
  go_wp2_with fail
  refine (awake11_any _).mono ?_
  rintro e w1 ⟨rfl, hb1⟩
  have H1 := Aside0.mk (H0.out.call hb1)
  clear hb1 H0 hgb
  go_wp2_with fail
  refine regionS (W := w1)
    [fun _ v => v = .agg #[.int .u8 kd, .int .u32 tc, .int .u32 m, .int .u32 tk, .int .u32 hs, .slice A1 n1 c1, .slice A2 n2 c2],
     fun _ _ => True,
     fun _ v => v = .agg #[.int .u8 kd', .int .u32 tc', .int .u32 m', .int .u32 tk', .int .u32 hs', .slice A3 n3 c3, .slice A4 n4 c4],
     fun _ _ => True,
     fun _ v => v = .slice A n c,
     fun _ _ => True,
     fun _ _ => True,
     fun _ _ => True,
     fun _ _ => True]
    [1, 3, 5, 6, 7, 8]
    (fun t => match t with | 0 => fun (rs : List Value) (w : World) => Hp B w00 w [(gb, .cells #[.int .u8 kd', .int .u32 tc', .int .u32 m', .int .u32 tk', .int .u32 hs', .slice A3 n3 c3, .slice A4 n4 c4] 28 (0, 0)), (B, .cells #[.int .u8 kd, .int .u32 tc, .int .u32 m, .int .u32 tk, .int .u32 hs, .slice A1 n1 c1, .slice A2 n2 c2] 28 (0, 0))] [] | 1 => fun (rs : List Value) (w : World) => ∃ x y, (rs.getD 0 undef) = .agg #[.int .u8 kd, .int .u32 tc, .int .u32 m, .int .u32 tk, .int .u32 hs, x, y] ∧ Hp B w00 w [(gb, .cells #[.int .u8 kd', .int .u32 tc', .int .u32 m', .int .u32 tk', .int .u32 hs', .slice A3 n3 c3, .slice A4 n4 c4] 28 (0, 0)), (B, .cells #[.int .u8 kd, .int .u32 tc, .int .u32 m, .int .u32 tk, .int .u32 hs, .slice A1 n1 c1, .slice A2 n2 c2] 28 (0, 0))] [fun w => (Kd.int .u8).R 5 w B (fun _ => True) (x) P, fun w => k59.R 59 w B (fun _ => True) (y) C] | 2 => fun (rs : List Value) (w : World) => ∃ x y x' y', (rs.getD 0 undef) = .agg #[.int .u8 kd, .int .u32 tc, .int .u32 m, .int .u32 tk, .int .u32 hs, x, y] ∧ (rs.getD 1 undef) = .agg #[.int .u8 kd', .int .u32 tc', .int .u32 m', .int .u32 tk', .int .u32 hs', x', y'] ∧ Hp B w00 w [(gb, .cells #[.int .u8 kd', .int .u32 tc', .int .u32 m', .int .u32 tk', .int .u32 hs', .slice A3 n3 c3, .slice A4 n4 c4] 28 (0, 0)), (B, .cells #[.int .u8 kd, .int .u32 tc, .int .u32 m, .int .u32 tk, .int .u32 hs, .slice A1 n1 c1, .slice A2 n2 c2] 28 (0, 0))] [fun w => (Kd.int .u8).R 5 w B (fun _ => True) (x') P', fun w => k59.R 59 w B (fun _ => True) (y') C', fun w => (Kd.int .u8).R 5 w B (fun _ => True) (x) P, fun w => k59.R 59 w B (fun _ => True) (y) C] | 3 => fun (rs : List Value) (w : World) => ∃ x y x' y', (rs.getD 0 undef) = .agg #[.int .u8 kd, .int .u32 tc, .int .u32 m, .int .u32 tk, .int .u32 hs, x, y] ∧ (rs.getD 1 undef) = .agg #[.int .u8 kd', .int .u32 tc', .int .u32 m', .int .u32 tk', .int .u32 hs', x', y'] ∧ Hp B w00 w [(gb, .cells #[.int .u8 kd', .int .u32 tc', .int .u32 m', .int .u32 tk', .int .u32 hs', .slice A3 n3 c3, .slice A4 n4 c4] 28 (0, 0)), (B, .cells #[.int .u8 kd, .int .u32 tc, .int .u32 m, .int .u32 tk, .int .u32 hs, .slice A1 n1 c1, .slice A2 n2 c2] 28 (0, 0))] [fun w => (Kd.int .u8).R 5 w B (fun _ => True) ((rs.getD 2 undef)) Q, fun w => (Kd.int .u8).R 5 w B (fun _ => True) (x') P', fun w => k59.R 59 w B (fun _ => True) (y') C', fun w => (Kd.int .u8).R 5 w B (fun _ => True) (x) P, fun w => k59.R 59 w B (fun _ => True) (y) C] | 4 => fun (rs : List Value) (w : World) => ∃ x y x' y', (rs.getD 1 undef) = .agg #[.int .u8 kd', .int .u32 tc', .int .u32 m', .int .u32 tk', .int .u32 hs', x', y'] ∧ Hp B w00 w [(gb, .cells #[.int .u8 kd', .int .u32 tc', .int .u32 m', .int .u32 tk', .int .u32 hs', .slice A3 n3 c3, .slice A4 n4 c4] 28 (0, 0)), (B, .cells #[.int .u8 kd, .int .u32 tc, .int .u32 m, .int .u32 tk, .int .u32 hs, x, y] 28 (0, 0))] [fun w => (Kd.int .u8).R 5 w B (fun _ => True) ((rs.getD 2 undef)) Q, fun w => (Kd.int .u8).R 5 w B (fun _ => True) (x') P', fun w => k59.R 59 w B (fun _ => True) (y') C', fun w => (Kd.int .u8).R 5 w B (fun _ => True) (x) P, fun w => k59.R 59 w B (fun _ => True) (y) C] | 5 => fun (rs : List Value) (w : World) => ∃ x y x' y', Hp B w00 w [(gb, .cells #[.int .u8 kd', .int .u32 tc', .int .u32 m', .int .u32 tk', .int .u32 hs', x', y'] 28 (0, 0)), (B, .cells #[.int .u8 kd, .int .u32 tc, .int .u32 m, .int .u32 tk, .int .u32 hs, x, y] 28 (0, 0))] [fun w => (Kd.int .u8).R 5 w B (fun _ => True) ((rs.getD 2 undef)) Q, fun w => (Kd.int .u8).R 5 w B (fun _ => True) (x') P', fun w => k59.R 59 w B (fun _ => True) (y') C', fun w => (Kd.int .u8).R 5 w B (fun _ => True) (x) P, fun w => k59.R 59 w B (fun _ => True) (y) C] | 6 => fun (rs : List Value) (w : World) => ∃ x y x' y', Hp B w00 w [(gb, .cells #[.int .u8 kd', .int .u32 tc', .int .u32 m', .int .u32 tk', .int .u32 hs', x', y'] 28 (0, 0)), (B, .cells #[.int .u8 kd, .int .u32 tc, .int .u32 m, .int .u32 tk, .int .u32 hs, x, y] 28 (0, 0))] [fun w => (Kd.int .u8).R 5 w B (fun _ => True) ((rs.getD 5 undef)) Q, fun w => (Kd.int .u8).R 5 w B (fun _ => True) (x') P', fun w => k59.R 59 w B (fun _ => True) (y') C', fun w => (Kd.int .u8).R 5 w B (fun _ => True) (x) P, fun w => k59.R 59 w B (fun _ => True) (y) C] | _ => fun _ _ => False)
    (fun _ _ _ => True) (fun w => Below B w00 w ∧ B ≤ w.heap.size)
    (fun j =>  none)
    [(0, some 26), (1, some 27), (2, some 28), (3, some 29), (4, some 30), (5, some 31), (6, none), (7, none), (8, some 1)]
    []
    (by kernel_rfl) (by kernel_rfl) (by kernel_rfl) (by kernel_rfl) (by kernel_rfl) ?z3_1c ?z3_1i ?z3_1b ?z3_1d ?z3_1g ⟨?z3_1t0, ?z3_1t1, ?z3_1t2, ?z3_1t3, ?z3_1t4, ?z3_1t5, ?z3_1t6, ?z3_1t7, ?z3_1t8, trivial⟩ ⟨?z3_1o0, ?z3_1o1, ?z3_1o2, ?z3_1o3, ?z3_1o4, ?z3_1o5, ?z3_1o6, ?z3_1o7, ?z3_1o8, trivial⟩ ?z3_1e
  case z3_1c => exact ⟨H1.out.drew.bel, H1.out.drew.le⟩
  case z3_1i => exact H1.out.drew
  case z3_1b => intro w w' hb h; exact ⟨h.1.trans (hb.mono h.2), Nat.le_trans h.2 hb.size⟩
  case z3_1d =>
    intro t rs w w' hb h
    match t, h with
    | 0, h => (replace h : Hp B w00 w [(gb, .cells #[.int .u8 kd', .int .u32 tc', .int .u32 m', .int .u32 tk', .int .u32 hs', .slice A3 n3 c3, .slice A4 n4 c4] 28 (0, 0)), (B, .cells #[.int .u8 kd, .int .u32 tc, .int .u32 m, .int .u32 tk, .int .u32 hs, .slice A1 n1 c1, .slice A2 n2 c2] 28 (0, 0))] [] := h); show Hp B w00 w' [(gb, .cells #[.int .u8 kd', .int .u32 tc', .int .u32 m', .int .u32 tk', .int .u32 hs', .slice A3 n3 c3, .slice A4 n4 c4] 28 (0, 0)), (B, .cells #[.int .u8 kd, .int .u32 tc, .int .u32 m, .int .u32 tk, .int .u32 hs, .slice A1 n1 c1, .slice A2 n2 c2] 28 (0, 0))] []; first | exact h.call hb | (obtain ⟨x, y, e1, h⟩ := h; exact ⟨x, y, e1, h.call hb⟩) | (obtain ⟨x, y, x', y', e1, e2, h⟩ := h; exact ⟨x, y, x', y', e1, e2, h.call hb⟩) | (obtain ⟨x, y, x', y', e1, h⟩ := h; exact ⟨x, y, x', y', e1, h.call hb⟩) | (obtain ⟨x, y, x', y', h⟩ := h; exact ⟨x, y, x', y', h.call hb⟩)
    | 1, h => (replace h : ∃ x y, (rs.getD 0 undef) = .agg #[.int .u8 kd, .int .u32 tc, .int .u32 m, .int .u32 tk, .int .u32 hs, x, y] ∧ Hp B w00 w [(gb, .cells #[.int .u8 kd', .int .u32 tc', .int .u32 m', .int .u32 tk', .int .u32 hs', .slice A3 n3 c3, .slice A4 n4 c4] 28 (0, 0)), (B, .cells #[.int .u8 kd, .int .u32 tc, .int .u32 m, .int .u32 tk, .int .u32 hs, .slice A1 n1 c1, .slice A2 n2 c2] 28 (0, 0))] [fun w => (Kd.int .u8).R 5 w B (fun _ => True) (x) P, fun w => k59.R 59 w B (fun _ => True) (y) C] := h); show ∃ x y, (rs.getD 0 undef) = .agg #[.int .u8 kd, .int .u32 tc, .int .u32 m, .int .u32 tk, .int .u32 hs, x, y] ∧ Hp B w00 w' [(gb, .cells #[.int .u8 kd', .int .u32 tc', .int .u32 m', .int .u32 tk', .int .u32 hs', .slice A3 n3 c3, .slice A4 n4 c4] 28 (0, 0)), (B, .cells #[.int .u8 kd, .int .u32 tc, .int .u32 m, .int .u32 tk, .int .u32 hs, .slice A1 n1 c1, .slice A2 n2 c2] 28 (0, 0))] [fun w' => (Kd.int .u8).R 5 w' B (fun _ => True) (x) P, fun w' => k59.R 59 w' B (fun _ => True) (y) C]; first | exact h.call hb | (obtain ⟨x, y, e1, h⟩ := h; exact ⟨x, y, e1, h.call hb⟩) | (obtain ⟨x, y, x', y', e1, e2, h⟩ := h; exact ⟨x, y, x', y', e1, e2, h.call hb⟩) | (obtain ⟨x, y, x', y', e1, h⟩ := h; exact ⟨x, y, x', y', e1, h.call hb⟩) | (obtain ⟨x, y, x', y', h⟩ := h; exact ⟨x, y, x', y', h.call hb⟩)
    | 2, h => (replace h : ∃ x y x' y', (rs.getD 0 undef) = .agg #[.int .u8 kd, .int .u32 tc, .int .u32 m, .int .u32 tk, .int .u32 hs, x, y] ∧ (rs.getD 1 undef) = .agg #[.int .u8 kd', .int .u32 tc', .int .u32 m', .int .u32 tk', .int .u32 hs', x', y'] ∧ Hp B w00 w [(gb, .cells #[.int .u8 kd', .int .u32 tc', .int .u32 m', .int .u32 tk', .int .u32 hs', .slice A3 n3 c3, .slice A4 n4 c4] 28 (0, 0)), (B, .cells #[.int .u8 kd, .int .u32 tc, .int .u32 m, .int .u32 tk, .int .u32 hs, .slice A1 n1 c1, .slice A2 n2 c2] 28 (0, 0))] [fun w => (Kd.int .u8).R 5 w B (fun _ => True) (x') P', fun w => k59.R 59 w B (fun _ => True) (y') C', fun w => (Kd.int .u8).R 5 w B (fun _ => True) (x) P, fun w => k59.R 59 w B (fun _ => True) (y) C] := h); show ∃ x y x' y', (rs.getD 0 undef) = .agg #[.int .u8 kd, .int .u32 tc, .int .u32 m, .int .u32 tk, .int .u32 hs, x, y] ∧ (rs.getD 1 undef) = .agg #[.int .u8 kd', .int .u32 tc', .int .u32 m', .int .u32 tk', .int .u32 hs', x', y'] ∧ Hp B w00 w' [(gb, .cells #[.int .u8 kd', .int .u32 tc', .int .u32 m', .int .u32 tk', .int .u32 hs', .slice A3 n3 c3, .slice A4 n4 c4] 28 (0, 0)), (B, .cells #[.int .u8 kd, .int .u32 tc, .int .u32 m, .int .u32 tk, .int .u32 hs, .slice A1 n1 c1, .slice A2 n2 c2] 28 (0, 0))] [fun w' => (Kd.int .u8).R 5 w' B (fun _ => True) (x') P', fun w' => k59.R 59 w' B (fun _ => True) (y') C', fun w' => (Kd.int .u8).R 5 w' B (fun _ => True) (x) P, fun w' => k59.R 59 w' B (fun _ => True) (y) C]; first | exact h.call hb | (obtain ⟨x, y, e1, h⟩ := h; exact ⟨x, y, e1, h.call hb⟩) | (obtain ⟨x, y, x', y', e1, e2, h⟩ := h; exact ⟨x, y, x', y', e1, e2, h.call hb⟩) | (obtain ⟨x, y, x', y', e1, h⟩ := h; exact ⟨x, y, x', y', e1, h.call hb⟩) | (obtain ⟨x, y, x', y', h⟩ := h; exact ⟨x, y, x', y', h.call hb⟩)
    | 3, h => (replace h : ∃ x y x' y', (rs.getD 0 undef) = .agg #[.int .u8 kd, .int .u32 tc, .int .u32 m, .int .u32 tk, .int .u32 hs, x, y] ∧ (rs.getD 1 undef) = .agg #[.int .u8 kd', .int .u32 tc', .int .u32 m', .int .u32 tk', .int .u32 hs', x', y'] ∧ Hp B w00 w [(gb, .cells #[.int .u8 kd', .int .u32 tc', .int .u32 m', .int .u32 tk', .int .u32 hs', .slice A3 n3 c3, .slice A4 n4 c4] 28 (0, 0)), (B, .cells #[.int .u8 kd, .int .u32 tc, .int .u32 m, .int .u32 tk, .int .u32 hs, .slice A1 n1 c1, .slice A2 n2 c2] 28 (0, 0))] [fun w => (Kd.int .u8).R 5 w B (fun _ => True) ((rs.getD 2 undef)) Q, fun w => (Kd.int .u8).R 5 w B (fun _ => True) (x') P', fun w => k59.R 59 w B (fun _ => True) (y') C', fun w => (Kd.int .u8).R 5 w B (fun _ => True) (x) P, fun w => k59.R 59 w B (fun _ => True) (y) C] := h); show ∃ x y x' y', (rs.getD 0 undef) = .agg #[.int .u8 kd, .int .u32 tc, .int .u32 m, .int .u32 tk, .int .u32 hs, x, y] ∧ (rs.getD 1 undef) = .agg #[.int .u8 kd', .int .u32 tc', .int .u32 m', .int .u32 tk', .int .u32 hs', x', y'] ∧ Hp B w00 w' [(gb, .cells #[.int .u8 kd', .int .u32 tc', .int .u32 m', .int .u32 tk', .int .u32 hs', .slice A3 n3 c3, .slice A4 n4 c4] 28 (0, 0)), (B, .cells #[.int .u8 kd, .int .u32 tc, .int .u32 m, .int .u32 tk, .int .u32 hs, .slice A1 n1 c1, .slice A2 n2 c2] 28 (0, 0))] [fun w' => (Kd.int .u8).R 5 w' B (fun _ => True) ((rs.getD 2 undef)) Q, fun w' => (Kd.int .u8).R 5 w' B (fun _ => True) (x') P', fun w' => k59.R 59 w' B (fun _ => True) (y') C', fun w' => (Kd.int .u8).R 5 w' B (fun _ => True) (x) P, fun w' => k59.R 59 w' B (fun _ => True) (y) C]; first | exact h.call hb | (obtain ⟨x, y, e1, h⟩ := h; exact ⟨x, y, e1, h.call hb⟩) | (obtain ⟨x, y, x', y', e1, e2, h⟩ := h; exact ⟨x, y, x', y', e1, e2, h.call hb⟩) | (obtain ⟨x, y, x', y', e1, h⟩ := h; exact ⟨x, y, x', y', e1, h.call hb⟩) | (obtain ⟨x, y, x', y', h⟩ := h; exact ⟨x, y, x', y', h.call hb⟩)
    | 4, h => (replace h : ∃ x y x' y', (rs.getD 1 undef) = .agg #[.int .u8 kd', .int .u32 tc', .int .u32 m', .int .u32 tk', .int .u32 hs', x', y'] ∧ Hp B w00 w [(gb, .cells #[.int .u8 kd', .int .u32 tc', .int .u32 m', .int .u32 tk', .int .u32 hs', .slice A3 n3 c3, .slice A4 n4 c4] 28 (0, 0)), (B, .cells #[.int .u8 kd, .int .u32 tc, .int .u32 m, .int .u32 tk, .int .u32 hs, x, y] 28 (0, 0))] [fun w => (Kd.int .u8).R 5 w B (fun _ => True) ((rs.getD 2 undef)) Q, fun w => (Kd.int .u8).R 5 w B (fun _ => True) (x') P', fun w => k59.R 59 w B (fun _ => True) (y') C', fun w => (Kd.int .u8).R 5 w B (fun _ => True) (x) P, fun w => k59.R 59 w B (fun _ => True) (y) C] := h); show ∃ x y x' y', (rs.getD 1 undef) = .agg #[.int .u8 kd', .int .u32 tc', .int .u32 m', .int .u32 tk', .int .u32 hs', x', y'] ∧ Hp B w00 w' [(gb, .cells #[.int .u8 kd', .int .u32 tc', .int .u32 m', .int .u32 tk', .int .u32 hs', .slice A3 n3 c3, .slice A4 n4 c4] 28 (0, 0)), (B, .cells #[.int .u8 kd, .int .u32 tc, .int .u32 m, .int .u32 tk, .int .u32 hs, x, y] 28 (0, 0))] [fun w' => (Kd.int .u8).R 5 w' B (fun _ => True) ((rs.getD 2 undef)) Q, fun w' => (Kd.int .u8).R 5 w' B (fun _ => True) (x') P', fun w' => k59.R 59 w' B (fun _ => True) (y') C', fun w' => (Kd.int .u8).R 5 w' B (fun _ => True) (x) P, fun w' => k59.R 59 w' B (fun _ => True) (y) C]; first | exact h.call hb | (obtain ⟨x, y, e1, h⟩ := h; exact ⟨x, y, e1, h.call hb⟩) | (obtain ⟨x, y, x', y', e1, e2, h⟩ := h; exact ⟨x, y, x', y', e1, e2, h.call hb⟩) | (obtain ⟨x, y, x', y', e1, h⟩ := h; exact ⟨x, y, x', y', e1, h.call hb⟩) | (obtain ⟨x, y, x', y', h⟩ := h; exact ⟨x, y, x', y', h.call hb⟩)
    | 5, h => (replace h : ∃ x y x' y', Hp B w00 w [(gb, .cells #[.int .u8 kd', .int .u32 tc', .int .u32 m', .int .u32 tk', .int .u32 hs', x', y'] 28 (0, 0)), (B, .cells #[.int .u8 kd, .int .u32 tc, .int .u32 m, .int .u32 tk, .int .u32 hs, x, y] 28 (0, 0))] [fun w => (Kd.int .u8).R 5 w B (fun _ => True) ((rs.getD 2 undef)) Q, fun w => (Kd.int .u8).R 5 w B (fun _ => True) (x') P', fun w => k59.R 59 w B (fun _ => True) (y') C', fun w => (Kd.int .u8).R 5 w B (fun _ => True) (x) P, fun w => k59.R 59 w B (fun _ => True) (y) C] := h); show ∃ x y x' y', Hp B w00 w' [(gb, .cells #[.int .u8 kd', .int .u32 tc', .int .u32 m', .int .u32 tk', .int .u32 hs', x', y'] 28 (0, 0)), (B, .cells #[.int .u8 kd, .int .u32 tc, .int .u32 m, .int .u32 tk, .int .u32 hs, x, y] 28 (0, 0))] [fun w' => (Kd.int .u8).R 5 w' B (fun _ => True) ((rs.getD 2 undef)) Q, fun w' => (Kd.int .u8).R 5 w' B (fun _ => True) (x') P', fun w' => k59.R 59 w' B (fun _ => True) (y') C', fun w' => (Kd.int .u8).R 5 w' B (fun _ => True) (x) P, fun w' => k59.R 59 w' B (fun _ => True) (y) C]; first | exact h.call hb | (obtain ⟨x, y, e1, h⟩ := h; exact ⟨x, y, e1, h.call hb⟩) | (obtain ⟨x, y, x', y', e1, e2, h⟩ := h; exact ⟨x, y, x', y', e1, e2, h.call hb⟩) | (obtain ⟨x, y, x', y', e1, h⟩ := h; exact ⟨x, y, x', y', e1, h.call hb⟩) | (obtain ⟨x, y, x', y', h⟩ := h; exact ⟨x, y, x', y', h.call hb⟩)
    | 6, h => (replace h : ∃ x y x' y', Hp B w00 w [(gb, .cells #[.int .u8 kd', .int .u32 tc', .int .u32 m', .int .u32 tk', .int .u32 hs', x', y'] 28 (0, 0)), (B, .cells #[.int .u8 kd, .int .u32 tc, .int .u32 m, .int .u32 tk, .int .u32 hs, x, y] 28 (0, 0))] [fun w => (Kd.int .u8).R 5 w B (fun _ => True) ((rs.getD 5 undef)) Q, fun w => (Kd.int .u8).R 5 w B (fun _ => True) (x') P', fun w => k59.R 59 w B (fun _ => True) (y') C', fun w => (Kd.int .u8).R 5 w B (fun _ => True) (x) P, fun w => k59.R 59 w B (fun _ => True) (y) C] := h); show ∃ x y x' y', Hp B w00 w' [(gb, .cells #[.int .u8 kd', .int .u32 tc', .int .u32 m', .int .u32 tk', .int .u32 hs', x', y'] 28 (0, 0)), (B, .cells #[.int .u8 kd, .int .u32 tc, .int .u32 m, .int .u32 tk, .int .u32 hs, x, y] 28 (0, 0))] [fun w' => (Kd.int .u8).R 5 w' B (fun _ => True) ((rs.getD 5 undef)) Q, fun w' => (Kd.int .u8).R 5 w' B (fun _ => True) (x') P', fun w' => k59.R 59 w' B (fun _ => True) (y') C', fun w' => (Kd.int .u8).R 5 w' B (fun _ => True) (x) P, fun w' => k59.R 59 w' B (fun _ => True) (y) C]; first | exact h.call hb | (obtain ⟨x, y, e1, h⟩ := h; exact ⟨x, y, e1, h.call hb⟩) | (obtain ⟨x, y, x', y', e1, e2, h⟩ := h; exact ⟨x, y, x', y', e1, e2, h.call hb⟩) | (obtain ⟨x, y, x', y', e1, h⟩ := h; exact ⟨x, y, x', y', e1, h.call hb⟩) | (obtain ⟨x, y, x', y', h⟩ := h; exact ⟨x, y, x', y', h.call hb⟩)
    | _ + 7, h => exact h.elim
  case z3_1g =>
    intro j hj; cases hj
  case z3_1t0 => exact StabS.const _ _ _ _
  case z3_1t1 => exact StabS.const _ _ _ _
  case z3_1t2 => exact StabS.const _ _ _ _
  case z3_1t3 => exact StabS.const _ _ _ _
  case z3_1t4 => exact StabS.const _ _ _ _
  case z3_1t5 => exact StabS.const _ _ _ _
  case z3_1t6 => exact StabS.const _ _ _ _
  case z3_1t7 => exact StabS.const _ _ _ _
  case z3_1t8 => exact StabS.const _ _ _ _
  case z3_1o0 =>
    intro vs w t hC ht1 ht2 hS hV
    rw [if_pos (by kernel_rfl)]
    generalize hρ : rho _ _ _ vs = ρ
    have e5 : ρ (.tmp 5) = .pointer (some ⟨B, 0, none⟩) := by rw [← hρ]; kernel_rfl
    clear hρ hV
    have ht0 : t ≤ 0 := by
      rcases Nat.lt_or_ge 0 t with hq | hq
      · exact absurd (ht1 0 1 _ hq rfl rfl) (by decide +kernel)
      · exact hq
    rcases (show t = 0 by omega) with rfl
    · replace hS : Hp B w00 w [(gb, .cells #[.int .u8 kd', .int .u32 tc', .int .u32 m', .int .u32 tk', .int .u32 hs', .slice A3 n3 c3, .slice A4 n4 c4] 28 (0, 0)), (B, .cells #[.int .u8 kd, .int .u32 tc, .int .u32 m, .int .u32 tk, .int .u32 hs, .slice A1 n1 c1, .slice A2 n2 c2] 28 (0, 0))] [] := hS
      exact runs_load 28 (.tmp 5) rfl B e5 28 #[.int .u8 kd, .int .u32 tc, .int .u32 m, .int .u32 tk, .int .u32 hs, .slice A1 n1 c1, .slice A2 n2 c2] (0, 0) _ (hS.get (i := 1) rfl) Try.underlying28 rfl (msg_info _ _ _ _ _ _ _) ⟨Below.refl _ _, rfl⟩
  case z3_1o1 =>
    intro vs w hC hS hV
    replace hS : Hp B w00 w [(gb, .cells #[.int .u8 kd', .int .u32 tc', .int .u32 m', .int .u32 tk', .int .u32 hs', .slice A3 n3 c3, .slice A4 n4 c4] 28 (0, 0)), (B, .cells #[.int .u8 kd, .int .u32 tc, .int .u32 m, .int .u32 tk, .int .u32 hs, .slice A1 n1 c1, .slice A2 n2 c2] 28 (0, 0))] [] := hS
    rw [if_pos (by kernel_rfl)]
    generalize hρ : rho _ _ _ vs = ρ
    have d26 : (vs 0) = .agg #[.int .u8 kd, .int .u32 tc, .int .u32 m, .int .u32 tk, .int .u32 hs, .slice A1 n1 c1, .slice A2 n2 c2] := hV 0 (by kernel_rfl)
    have e26 : ρ (.tmp 26) = vs 0 := by rw [← hρ]; kernel_rfl
    rw [d26] at e26; clear d26
    have ef11 : ρ (.func 11) = .func (.func 11) #[] #[] := by rw [← hρ]; rfl
    clear hρ hV
    refine runs_call (f := 11) (args := #[.agg #[.int .u8 kd, .int .u32 tc, .int .u32 m, .int .u32 tk, .int .u32 hs, .slice A1 n1 c1, .slice A2 n2 c2]]) (w' := w) ?_ ?_
    · clear hS hC; go_simp
    · refine (KF1.out w hC.1 _ rfl).mono ?_
      rintro e w5 ⟨x, y, rfl, r1, r2, hb5⟩
      exact ⟨_, rfl, ⟨hC.1.trans (hb5.mono hC.2), Nat.le_trans hC.2 hb5.size⟩, trivial, trivial, x, y, rfl, (hS.row hb5 r1).both (hS.row hb5 r2)⟩
  case z3_1o2 =>
    intro vs w t hC ht1 ht2 hS hV
    rw [if_pos (by kernel_rfl)]
    generalize hρ : rho _ _ _ vs = ρ
    have e9 : ρ (.tmp 9) = .pointer (some ⟨gb, 0, none⟩) := by rw [← hρ]; kernel_rfl
    clear hρ hV
    have ht0 : t ≤ 1 := by
      rcases Nat.lt_or_ge 1 t with hq | hq
      · exact absurd (ht1 1 3 _ hq rfl rfl) (by decide +kernel)
      · exact hq
    rcases (show t = 0 ∨ t = 1 by omega) with rfl | rfl
    · replace hS : Hp B w00 w [(gb, .cells #[.int .u8 kd', .int .u32 tc', .int .u32 m', .int .u32 tk', .int .u32 hs', .slice A3 n3 c3, .slice A4 n4 c4] 28 (0, 0)), (B, .cells #[.int .u8 kd, .int .u32 tc, .int .u32 m, .int .u32 tk, .int .u32 hs, .slice A1 n1 c1, .slice A2 n2 c2] 28 (0, 0))] [] := hS
      have hS1 : ∃ F, Hp B w00 w [(gb, .cells #[.int .u8 kd', .int .u32 tc', .int .u32 m', .int .u32 tk', .int .u32 hs', .slice A3 n3 c3, .slice A4 n4 c4] 28 (0, 0)), (B, .cells #[.int .u8 kd, .int .u32 tc, .int .u32 m, .int .u32 tk, .int .u32 hs, .slice A1 n1 c1, .slice A2 n2 c2] 28 (0, 0))] F := by first | exact ⟨_, hS⟩ | (obtain ⟨x, y, e1, h⟩ := hS; exact ⟨_, h⟩)
      obtain ⟨F, hS1⟩ := hS1
      exact runs_load 28 (.tmp 9) rfl gb e9 28 #[.int .u8 kd', .int .u32 tc', .int .u32 m', .int .u32 tk', .int .u32 hs', .slice A3 n3 c3, .slice A4 n4 c4] (0, 0) _ (hS1.get (i := 0) rfl) Try.underlying28 rfl (msg_info _ _ _ _ _ _ _) ⟨Below.refl _ _, rfl⟩
    · replace hS : ∃ x y, (vs 1) = .agg #[.int .u8 kd, .int .u32 tc, .int .u32 m, .int .u32 tk, .int .u32 hs, x, y] ∧ Hp B w00 w [(gb, .cells #[.int .u8 kd', .int .u32 tc', .int .u32 m', .int .u32 tk', .int .u32 hs', .slice A3 n3 c3, .slice A4 n4 c4] 28 (0, 0)), (B, .cells #[.int .u8 kd, .int .u32 tc, .int .u32 m, .int .u32 tk, .int .u32 hs, .slice A1 n1 c1, .slice A2 n2 c2] 28 (0, 0))] [fun w => (Kd.int .u8).R 5 w B (fun _ => True) (x) P, fun w => k59.R 59 w B (fun _ => True) (y) C] := hS
      have hS1 : ∃ F, Hp B w00 w [(gb, .cells #[.int .u8 kd', .int .u32 tc', .int .u32 m', .int .u32 tk', .int .u32 hs', .slice A3 n3 c3, .slice A4 n4 c4] 28 (0, 0)), (B, .cells #[.int .u8 kd, .int .u32 tc, .int .u32 m, .int .u32 tk, .int .u32 hs, .slice A1 n1 c1, .slice A2 n2 c2] 28 (0, 0))] F := by first | exact ⟨_, hS⟩ | (obtain ⟨x, y, e1, h⟩ := hS; exact ⟨_, h⟩)
      obtain ⟨F, hS1⟩ := hS1
      exact runs_load 28 (.tmp 9) rfl gb e9 28 #[.int .u8 kd', .int .u32 tc', .int .u32 m', .int .u32 tk', .int .u32 hs', .slice A3 n3 c3, .slice A4 n4 c4] (0, 0) _ (hS1.get (i := 0) rfl) Try.underlying28 rfl (msg_info _ _ _ _ _ _ _) ⟨Below.refl _ _, rfl⟩
  case z3_1o3 =>
    intro vs w hC hS hV
    replace hS : ∃ x y, (vs 1) = .agg #[.int .u8 kd, .int .u32 tc, .int .u32 m, .int .u32 tk, .int .u32 hs, x, y] ∧ Hp B w00 w [(gb, .cells #[.int .u8 kd', .int .u32 tc', .int .u32 m', .int .u32 tk', .int .u32 hs', .slice A3 n3 c3, .slice A4 n4 c4] 28 (0, 0)), (B, .cells #[.int .u8 kd, .int .u32 tc, .int .u32 m, .int .u32 tk, .int .u32 hs, .slice A1 n1 c1, .slice A2 n2 c2] 28 (0, 0))] [fun w => (Kd.int .u8).R 5 w B (fun _ => True) (x) P, fun w => k59.R 59 w B (fun _ => True) (y) C] := hS
    rw [if_pos (by kernel_rfl)]
    generalize hρ : rho _ _ _ vs = ρ
    have d28 : (vs 2) = .agg #[.int .u8 kd', .int .u32 tc', .int .u32 m', .int .u32 tk', .int .u32 hs', .slice A3 n3 c3, .slice A4 n4 c4] := hV 2 (by kernel_rfl)
    have e28 : ρ (.tmp 28) = vs 2 := by rw [← hρ]; kernel_rfl
    rw [d28] at e28; clear d28
    have ef11 : ρ (.func 11) = .func (.func 11) #[] #[] := by rw [← hρ]; rfl
    clear hρ hV
    obtain ⟨x, y, q1, hS⟩ := hS
    refine runs_call (f := 11) (args := #[.agg #[.int .u8 kd', .int .u32 tc', .int .u32 m', .int .u32 tk', .int .u32 hs', .slice A3 n3 c3, .slice A4 n4 c4]]) (w' := w) ?_ ?_
    · clear hS hC q1; go_simp
    · refine (KF2.out w hC.1 _ rfl).mono ?_
      rintro e w5 ⟨x', y', rfl, r1, r2, hb5⟩
      exact ⟨_, rfl, ⟨hC.1.trans (hb5.mono hC.2), Nat.le_trans hC.2 hb5.size⟩, trivial, trivial, x, y, x', y', q1, rfl, (hS.row hb5 r1).both (hS.row hb5 r2)⟩
  case z3_1o4 =>
    intro vs w t hC ht1 ht2 hS hV
    rw [if_pos (by kernel_rfl)]
    generalize hρ : rho _ _ _ vs = ρ
    have e1 : ρ (.tmp 1) = .slice A n c := by rw [← hρ]; kernel_rfl
    clear hρ hV
    refine runs_val (v := .slice A n c) (w' := w) ?_ ⟨Below.refl _ _, rfl⟩
    clear ht1 ht2 hS hC
    go_simp <;> (first | exact IntWalk.u64_in _ (by omega) | exact IntWalk.u32_in _ (by omega) | exact IntWalk.u16_in _ (by omega) | exact IntWalk.u8_in _ (by omega) | exact IntWalk.i64_in _ (by omega) | skip)
  case z3_1o5 =>
    intro vs w hC hS hV
    replace hS : ∃ x y x' y', (vs 1) = .agg #[.int .u8 kd, .int .u32 tc, .int .u32 m, .int .u32 tk, .int .u32 hs, x, y] ∧ (vs 3) = .agg #[.int .u8 kd', .int .u32 tc', .int .u32 m', .int .u32 tk', .int .u32 hs', x', y'] ∧ Hp B w00 w [(gb, .cells #[.int .u8 kd', .int .u32 tc', .int .u32 m', .int .u32 tk', .int .u32 hs', .slice A3 n3 c3, .slice A4 n4 c4] 28 (0, 0)), (B, .cells #[.int .u8 kd, .int .u32 tc, .int .u32 m, .int .u32 tk, .int .u32 hs, .slice A1 n1 c1, .slice A2 n2 c2] 28 (0, 0))] [fun w => (Kd.int .u8).R 5 w B (fun _ => True) (x') P', fun w => k59.R 59 w B (fun _ => True) (y') C', fun w => (Kd.int .u8).R 5 w B (fun _ => True) (x) P, fun w => k59.R 59 w B (fun _ => True) (y) C] := hS
    rw [if_pos (by kernel_rfl)]
    generalize hρ : rho _ _ _ vs = ρ
    have d30 : (vs 4) = .slice A n c := hV 4 (by kernel_rfl)
    have e30 : ρ (.tmp 30) = vs 4 := by rw [← hρ]; kernel_rfl
    rw [d30] at e30; clear d30
    have ef12 : ρ (.func 12) = .func (.func 12) #[] #[] := by rw [← hρ]; rfl
    have econ : ∀ v : Value, ρ (.const v) = v := fun v => by rw [← hρ]; rfl
    clear hρ hV
    obtain ⟨x, y, x', y', q1, q2, hS⟩ := hS
    refine runs_call (f := 12) (args := #[.slice A n c, .int .i64 40]) (w' := w) ?_ ?_
    · clear hS hC q1 q2; go_simp
    · refine (KC3.out w (HF.out w hC.1)).mono ?_
      rintro e w5 ⟨v, rfl, hv, hb5⟩
      exact ⟨_, rfl, ⟨hC.1.trans (hb5.mono hC.2), Nat.le_trans hC.2 hb5.size⟩, trivial, trivial, x, y, x', y', q1, q2, hS.row hb5 hv⟩
  case z3_1o6 =>
    intro vs w hC hS hV
    replace hS : ∃ x y x' y', (vs 1) = .agg #[.int .u8 kd, .int .u32 tc, .int .u32 m, .int .u32 tk, .int .u32 hs, x, y] ∧ (vs 3) = .agg #[.int .u8 kd', .int .u32 tc', .int .u32 m', .int .u32 tk', .int .u32 hs', x', y'] ∧ Hp B w00 w [(gb, .cells #[.int .u8 kd', .int .u32 tc', .int .u32 m', .int .u32 tk', .int .u32 hs', .slice A3 n3 c3, .slice A4 n4 c4] 28 (0, 0)), (B, .cells #[.int .u8 kd, .int .u32 tc, .int .u32 m, .int .u32 tk, .int .u32 hs, .slice A1 n1 c1, .slice A2 n2 c2] 28 (0, 0))] [fun w => (Kd.int .u8).R 5 w B (fun _ => True) ((vs 5)) Q, fun w => (Kd.int .u8).R 5 w B (fun _ => True) (x') P', fun w => k59.R 59 w B (fun _ => True) (y') C', fun w => (Kd.int .u8).R 5 w B (fun _ => True) (x) P, fun w => k59.R 59 w B (fun _ => True) (y) C] := hS
    rw [if_pos (by kernel_rfl)]
    generalize hρ : rho _ _ _ vs = ρ
    have e5 : ρ (.tmp 5) = .pointer (some ⟨B, 0, none⟩) := by rw [← hρ]; kernel_rfl
    have d27 : (fun (w : World) (v : Value) => True) w (vs 1) := hV 1 (by kernel_rfl)
    have e27 : ρ (.tmp 27) = vs 1 := by rw [← hρ]; kernel_rfl
    clear hρ hV
    obtain ⟨x, y, x', y', q1, q2, hS⟩ := hS
    obtain ⟨A5, c5, hx⟩ := Kd.R_slice (hS.fact (i := 3) rfl)
    obtain ⟨A6, c6, hy⟩ := Kd.R_slice (hS.fact (i := 4) rfl)
    replace q1 : vs 1 = .agg #[.int .u8 kd, .int .u32 tc, .int .u32 m, .int .u32 tk, .int .u32 hs, x, y] := q1
    subst hx hy
    rw [q1] at e27
    have hS2 := hS.setRow (i := 1) rfl #[.int .u8 kd, .int .u32 tc, .int .u32 m, .int .u32 tk, .int .u32 hs, .slice A5 P.length c5, .slice A6 C.length c6]
    exact runs_store_row 28 (.tmp 5) (.tmp 27) rfl B #[.int .u8 kd, .int .u32 tc, .int .u32 m, .int .u32 tk, .int .u32 hs, .slice A5 P.length c5, .slice A6 C.length c6] e5 e27 28 _ (hS.get (i := 1) rfl) (msg_info _ _ _ _ _ _ _) rfl (by simp [Value.oneCell']) ⟨⟨hS2.bel, hS2.le⟩, trivial, trivial, _, _, x', y', q2, hS2⟩
  case z3_1o7 =>
    intro vs w hC hS hV
    replace hS : ∃ x y x' y', (vs 3) = .agg #[.int .u8 kd', .int .u32 tc', .int .u32 m', .int .u32 tk', .int .u32 hs', x', y'] ∧ Hp B w00 w [(gb, .cells #[.int .u8 kd', .int .u32 tc', .int .u32 m', .int .u32 tk', .int .u32 hs', .slice A3 n3 c3, .slice A4 n4 c4] 28 (0, 0)), (B, .cells #[.int .u8 kd, .int .u32 tc, .int .u32 m, .int .u32 tk, .int .u32 hs, x, y] 28 (0, 0))] [fun w => (Kd.int .u8).R 5 w B (fun _ => True) ((vs 5)) Q, fun w => (Kd.int .u8).R 5 w B (fun _ => True) (x') P', fun w => k59.R 59 w B (fun _ => True) (y') C', fun w => (Kd.int .u8).R 5 w B (fun _ => True) (x) P, fun w => k59.R 59 w B (fun _ => True) (y) C] := hS
    rw [if_pos (by kernel_rfl)]
    generalize hρ : rho _ _ _ vs = ρ
    have e9 : ρ (.tmp 9) = .pointer (some ⟨gb, 0, none⟩) := by rw [← hρ]; kernel_rfl
    have d29 : (fun (w : World) (v : Value) => True) w (vs 3) := hV 3 (by kernel_rfl)
    have e29 : ρ (.tmp 29) = vs 3 := by rw [← hρ]; kernel_rfl
    clear hρ hV
    obtain ⟨x, y, x', y', q2, hS⟩ := hS
    obtain ⟨A5, c5, hx⟩ := Kd.R_slice (hS.fact (i := 1) rfl)
    obtain ⟨A6, c6, hy⟩ := Kd.R_slice (hS.fact (i := 2) rfl)
    replace q2 : vs 3 = .agg #[.int .u8 kd', .int .u32 tc', .int .u32 m', .int .u32 tk', .int .u32 hs', x', y'] := q2
    subst hx hy
    rw [q2] at e29
    have hS2 := hS.setRow (i := 0) rfl #[.int .u8 kd', .int .u32 tc', .int .u32 m', .int .u32 tk', .int .u32 hs', .slice A5 P'.length c5, .slice A6 C'.length c6]
    exact runs_store_row 28 (.tmp 9) (.tmp 29) rfl gb #[.int .u8 kd', .int .u32 tc', .int .u32 m', .int .u32 tk', .int .u32 hs', .slice A5 P'.length c5, .slice A6 C'.length c6] e9 e29 28 _ (hS.get (i := 0) rfl) (msg_info _ _ _ _ _ _ _) rfl (by simp [Value.oneCell']) ⟨⟨hS2.bel, hS2.le⟩, trivial, trivial, x, y, _, _, hS2⟩
  case z3_1o8 =>
    intro vs w hC hS hV
    replace hS : ∃ x y x' y', Hp B w00 w [(gb, .cells #[.int .u8 kd', .int .u32 tc', .int .u32 m', .int .u32 tk', .int .u32 hs', x', y'] 28 (0, 0)), (B, .cells #[.int .u8 kd, .int .u32 tc, .int .u32 m, .int .u32 tk, .int .u32 hs, x, y] 28 (0, 0))] [fun w => (Kd.int .u8).R 5 w B (fun _ => True) ((vs 5)) Q, fun w => (Kd.int .u8).R 5 w B (fun _ => True) (x') P', fun w => k59.R 59 w B (fun _ => True) (y') C', fun w => (Kd.int .u8).R 5 w B (fun _ => True) (x) P, fun w => k59.R 59 w B (fun _ => True) (y) C] := hS
    rw [if_pos (by kernel_rfl)]
    generalize hρ : rho _ _ _ vs = ρ
    have d31 : (fun (w : World) (v : Value) => True) w (vs 5) := hV 5 (by kernel_rfl)
    have e31 : ρ (.tmp 31) = vs 5 := by rw [← hρ]; kernel_rfl
    clear hρ hV
    refine runs_val (v := vs 5) (w' := w) ?_ ⟨hC, trivial, trivial, hS⟩
    clear hS hC
    go_simp
  case z3_1e =>
    intro vs W3 hC hS hV
    replace hS : (fun (w : World) => ∃ x y x' y', Hp B w00 w [(gb, .cells #[.int .u8 kd', .int .u32 tc', .int .u32 m', .int .u32 tk', .int .u32 hs', x', y'] 28 (0, 0)), (B, .cells #[.int .u8 kd, .int .u32 tc, .int .u32 m, .int .u32 tk, .int .u32 hs, x, y] 28 (0, 0))] [fun w => (Kd.int .u8).R 5 w B (fun _ => True) ((vs 8)) Q, fun w => (Kd.int .u8).R 5 w B (fun _ => True) (x') P', fun w => k59.R 59 w B (fun _ => True) (y') C', fun w => (Kd.int .u8).R 5 w B (fun _ => True) (x) P, fun w => k59.R 59 w B (fun _ => True) (y) C]) W3 := hS
    have d26 : (vs 0) = .agg #[.int .u8 kd, .int .u32 tc, .int .u32 m, .int .u32 tk, .int .u32 hs, .slice A1 n1 c1, .slice A2 n2 c2] := hV 0 (Nat.le_of_ble_eq_true rfl)
    have d27 : (fun (w : World) (v : Value) => True) W3 (vs 1) := hV 1 (Nat.le_of_ble_eq_true rfl)
    have d28 : (vs 2) = .agg #[.int .u8 kd', .int .u32 tc', .int .u32 m', .int .u32 tk', .int .u32 hs', .slice A3 n3 c3, .slice A4 n4 c4] := hV 2 (Nat.le_of_ble_eq_true rfl)
    have d29 : (fun (w : World) (v : Value) => True) W3 (vs 3) := hV 3 (Nat.le_of_ble_eq_true rfl)
    have d30 : (vs 4) = .slice A n c := hV 4 (Nat.le_of_ble_eq_true rfl)
    have d31 : (fun (w : World) (v : Value) => True) W3 (vs 5) := hV 5 (Nat.le_of_ble_eq_true rfl)
    have d1 : (fun (w : World) (v : Value) => True) W3 (vs 8) := hV 8 (Nat.le_of_ble_eq_true rfl)
    clear hV
    simp only [putAll]
    rw [d26, d28, d30]
    clear d26 d28 d30
    generalize vs 1 = v27 at *
    generalize vs 3 = v29 at *
    generalize vs 5 = v31 at *
    generalize vs 8 = v1 at *
    generalize vs 6 = vN6
    generalize vs 7 = vN7
    clear vs
    simp only [Act.put, List.setIfInBounds_toArray, List.set_cons_zero, List.set_cons_succ]
    obtain ⟨xa, ya, xb, yb, hS⟩ := hS
    have H3 := Aside0.mk hS
    clear hS hC d27 d29 d31 d1 H1 KF1 KF2 KC3 HF
    obtain ⟨Aq, cq, q0, hcq, _⟩ := Kd.R_reads (H3.out.fact (i := 0) rfl)
    obtain ⟨Ap', cp', q1, hp1, _⟩ := Kd.R_reads (H3.out.fact (i := 1) rfl)
    obtain ⟨Ac', cc', q2, hp2, _⟩ := Kd.R_reads (H3.out.fact (i := 2) rfl)
    obtain ⟨Ap, cp, q3, hp3, _⟩ := Kd.R_reads (H3.out.fact (i := 3) rfl)
    obtain ⟨Ac, cc, q4, hp4, _⟩ := Kd.R_reads (H3.out.fact (i := 4) rfl)
    obtain ⟨pn, hpn⟩ : ∃ n, P.length = n := ⟨_, rfl⟩
    obtain ⟨cn, hcn⟩ : ∃ n, C.length = n := ⟨_, rfl⟩
    obtain ⟨pn', hpn'⟩ : ∃ n, P'.length = n := ⟨_, rfl⟩
    obtain ⟨cn', hcn'⟩ : ∃ n, C'.length = n := ⟨_, rfl⟩
    obtain ⟨ql, hql⟩ : ∃ n, Q.length = n := ⟨_, rfl⟩
    rw [hql] at q0 hcq
    rw [hpn'] at q1 hp1
    rw [hcn'] at q2 hp2
    rw [hpn] at q3 hp3
    rw [hcn] at q4 hp4
    subst q0 q1 q2 q3 q4
    have HQL := Aside0.mk (And.intro hql hcq)
    have HMR : Aside0 (∀ z : World, (Kd.int .u8).R 5 z B (fun _ => True) (.slice Ap pn cp) P → k59.R 59 z B (fun _ => True) (.slice Ac cn cc) C → MsC z kd tc m tk hs P C (.agg #[.int .u8 kd, .int .u32 tc, .int .u32 m, .int .u32 tk, .int .u32 hs, .slice Ap pn cp, .slice Ac cn cc])) := ⟨fun z r1 r2 => ⟨Ap, cp, Ac, cc, by rw [hpn, hcn], by rw [hpn]; exact hp3, by rw [hcn]; exact hp4, by rw [hpn]; exact (Ru_C r1).2.2, by rw [hcn]; exact (Ru_C r2).2.2⟩⟩
    have HMR' : Aside0 (∀ z : World, (Kd.int .u8).R 5 z B (fun _ => True) (.slice Ap' pn' cp') P' → k59.R 59 z B (fun _ => True) (.slice Ac' cn' cc') C' → MsC z kd' tc' m' tk' hs' P' C' (.agg #[.int .u8 kd', .int .u32 tc', .int .u32 m', .int .u32 tk', .int .u32 hs', .slice Ap' pn' cp', .slice Ac' cn' cc'])) := ⟨fun z r1 r2 => ⟨Ap', cp', Ac', cc', by rw [hpn', hcn'], by rw [hpn']; exact hp1, by rw [hcn']; exact hp2, by rw [hpn']; exact (Ru_C r1).2.2, by rw [hcn']; exact (Ru_C r2).2.2⟩⟩
    clear hql hcq hpn hpn' hcn hcn' hp1 hp2 hp3 hp4
    obtain ⟨fb, hfb⟩ : ∃ fb, mBytes kd tc m tk hs P C = fb := ⟨_, rfl⟩
    obtain ⟨ρ, hρ⟩ : ∃ ρ, rightM kd tc m tk hs P C = ρ := ⟨_, rfl⟩
    have HFB := Aside0.mk hfb
    have HRH := Aside0.mk hρ
    have HFBB : Aside0 (Bytes fb ∧ fb.length ≤ 550) := ⟨by
      rw [← hfb]
      cases hh : rightM kd tc m tk hs P C with
      | false => rw [mBytes_no hh]; exact ⟨Bytes.nil, by simp⟩
      | true => rw [mBytes_yes hh]; exact ⟨mSay_bytes HOK.out.1.1 HOK.out.1.2.2.2.2.2.1, by have := (mSay_pos kd tc m tk hs P C).2; have := HOK.out.2.1; omega⟩⟩
    clear hfb hρ
    go_wp2_with (first | (refine wpList_load_row_g 28 (.tmp 5) rfl B rfl rfl 28 _ (0, 0) _ (H3.out.get (i := 1) rfl) Try.underlying28 rfl (msg_info _ _ _ _ _ _ _) ?_))
    refine (mbytes_any kd tc m tk hs P C _ W3 (HMR.out _ (H3.out.fact (i := 3) rfl) (H3.out.fact (i := 4) rfl)) HOK.out.1).mono ?_
    rintro e w4 ⟨v4, rfl, hv4, hb4⟩
    rw [HFB.out] at hv4
    have H4 := Aside0.mk (H3.out.row hb4 hv4)
    obtain ⟨Ab, cb, rfl, hcb, _⟩ := Kd.R_reads hv4
    obtain ⟨bl, hbl⟩ : ∃ n, fb.length = n := ⟨_, rfl⟩
    rw [hbl] at H4 hcb
    rw [hbl]
    have HBL := Aside0.mk (And.intro hbl hcb)
    clear hb4 hv4 hcb hbl H3
    go_wp2_with (first | (refine wpList_load_row_g 28 (.tmp 5) rfl B rfl rfl 28 _ (0, 0) _ (H4.out.get (i := 1) rfl) Try.underlying28 rfl (msg_info _ _ _ _ _ _ _) ?_))
    refine (said_any kd tc m tk hs P C _ w4 (HMR.out _ (H4.out.fact (i := 4) rfl) (H4.out.fact (i := 5) rfl)) (by have := HOK.out.2.2; omega)).mono ?_
    rintro e w5 ⟨v5, rfl, hv5, hb5⟩
    have H5 := Aside0.mk (H4.out.call hb5)
    clear hb5 H4
    go_wp2_with fail
    refine (may_any kd tc m tk hs P C _ w5 hv5 HOK.out.1).mono ?_
    rintro e w6 ⟨rfl, hb6⟩
    have H6 := Aside0.mk (H5.out.call hb6)
    clear hb6 hv5 H5
    have KZ := Aside0.mk (msize_any kd tc m tk hs P C _ w6 (HMR.out _ (H6.out.fact (i := 4) rfl) (H6.out.fact (i := 5) rfl)) HOK.out.1)
    rw [HFB.out, HBL.out.1] at KZ
    rw [HRH.out]
    have hd1 : decide (0 < bl) = ρ := by
      rw [← HBL.out.1, ← HFB.out]
      cases ρ with
      | false => rw [mBytes_no HRH.out]; rfl
      | true => rw [mBytes_yes HRH.out]; exact decide_eq_true (mSay_pos kd tc m tk hs P C).1
    have hd0 : decide ((0 : Int) < bl) = ρ := by rw [← hd1]; exact decide_eq_decide.2 (by omega)
    go_wp2_with (first | (refine wpList_load_row_g 28 (.tmp 5) rfl B rfl rfl 28 _ (0, 0) _ (H6.out.get (i := 1) rfl) Try.underlying28 rfl (msg_info _ _ _ _ _ _ _) ?_))
    refine KZ.out.mono ?_
    rintro e w7 ⟨rfl, hb7⟩
    have H7 := Aside0.mk (H6.out.call hb7)
    clear hb7 H6 KZ
    go_upto_if 51 with fail
    go_cut [12] from 52 to 86 (fun v12 wz => ∃ (E : List Int) (Az : Option Addr) (cz : Nat), v12 = .slice Az E.length cz ∧ Aside0 (E.length ≤ cz ∧ Bytes E ∧ E.length ≤ 550 ∧ Hp B w00 wz [(gb, .cells #[.int .u8 kd', .int .u32 tc', .int .u32 m', .int .u32 tk', .int .u32 hs', .slice Ap' pn' cp', .slice Ac' cn' cc'] 28 (0, 0)), (B, .cells #[.int .u8 kd, .int .u32 tc, .int .u32 m, .int .u32 tk, .int .u32 hs, .slice Ap pn cp, .slice Ac cn cc] 28 (0, 0))] [fun w => (Kd.int .u8).R 5 w B (fun _ => True) (.slice Az E.length cz) E, fun w => (Kd.int .u8).R 5 w B (fun _ => True) (.slice Ab bl cb) fb, fun w => (Kd.int .u8).R 5 w B (fun _ => True) (.slice Aq ql cq) Q, fun w => (Kd.int .u8).R 5 w B (fun _ => True) (.slice Ap' pn' cp') P', fun w => k59.R 59 w B (fun _ => True) (.slice Ac' cn' cc') C', fun w => (Kd.int .u8).R 5 w B (fun _ => True) (.slice Ap pn cp) P, fun w => k59.R 59 w B (fun _ => True) (.slice Ac cn cc) C]))
    case first =>
      clear hd0 hd1
      cases ρ with
      | false =>
        have hb0 : bl = 0 := by rw [← HBL.out.1, ← HFB.out, mBytes_no HRH.out]; rfl
        subst hb0
        go_wp2_with fail
        go_meet
        exact ⟨Q, Aq, cq, by rw [HQL.out.1], ⟨by rw [HQL.out.1]; exact HQL.out.2, HQB.out.1, by have := HQB.out.2; omega, by
          rw [HQL.out.1]
          refine H7.out.drop (fun φ hφ => ?_)
          simp only [List.mem_cons, List.not_mem_nil, or_false] at hφ ⊢
          rcases hφ with rfl | rfl | rfl | rfl | rfl | rfl | rfl <;> simp⟩⟩
      | true =>
        have hsay : mSay kd tc m tk hs P C = fb := by rw [← HFB.out, mBytes_yes HRH.out]
        have HSB := Aside0.mk hsay
        have hbl1' : 1 ≤ bl := by rw [← HBL.out.1, ← hsay]; exact (mSay_pos kd tc m tk hs P C).1
        have HBP : Aside0 (1 ≤ bl ∧ bl ≤ 550) := ⟨hbl1', by rw [← HBL.out.1]; exact HFBB.out.2⟩
        have hb0 : (0 : Int) < bl := by omega
        have hd0 : decide ((0 : Int) < bl) = true := decide_eq_true hb0
        have hd1 : decide (0 < bl) = true := decide_eq_true (by omega)
        clear hsay
        go_wp2_with fail
        refine (mread_any Ab bl cb fb w7 (Ru_C (H7.out.fact (i := 0) rfl)).2.2 HBL.out.2 (by have := HBP.out; omega) HFBB.out.1).mono ?_
        rintro e w8 ⟨⟨v8, rfl, hv8⟩, hb8⟩
        have hpf := mSay_read HOK.out.1 HRH.out
        rw [HSB.out] at hpf
        rw [hpf] at hv8 ⊢
        simp only [if_true] at hv8 ⊢
        have hls := hv8
        obtain ⟨A7, c7, A8, c8, rfl, hc7, hc8, hC7, hC8⟩ := hv8
        obtain ⟨x1, x2, x3, x4⟩ : P.length = pn ∧ C.length = cn ∧ True ∧ True := by
          obtain ⟨_, _, _, _, g1, _⟩ := (HMR.out _ (H7.out.fact (i := 4) rfl) (H7.out.fact (i := 5) rfl))
          simp only [Value.agg.injEq, Array.mk.injEq, List.cons.injEq, Value.slice.injEq, and_true, true_and] at g1
          exact ⟨g1.1.2.1.symm, g1.2.2.1.symm, trivial, trivial⟩
        rw [x1, x2] at hls
        rw [x1, x2]
        obtain ⟨g13, hg13⟩ : ∃ g, w8.heap.size = g := ⟨_, rfl⟩
        have H8 := Aside0.mk (H7.out.call hb8)
        have H9 := Aside0.mk (H8.out.allocAt (.cells #[.int .u8 kd, .int .u32 tc, .int .u32 m, .int .u32 tk, .int .u32 hs, .slice A7 pn c7, .slice A8 cn c8] 28) g13 hg13)
        have HX7 : Aside0 (∀ z, Below w8.heap.size w8 z → MsC z kd tc m tk hs P C (.agg #[.int .u8 kd, .int .u32 tc, .int .u32 m, .int .u32 tk, .int .u32 hs, .slice A7 pn c7, .slice A8 cn c8])) := ⟨fun z hz => hls.below hz⟩
        have HB8 : Aside0 (Below w8.heap.size w8 (w8.alloc (.cells #[.int .u8 kd, .int .u32 tc, .int .u32 m, .int .u32 tk, .int .u32 hs, .slice A7 pn c7, .slice A8 cn c8] 28))) := ⟨below_alloc (Below.refl _ _) _⟩
        clear hb8 hpf hls hc7 hc8 hC7 hC8 x1 x2 x3 x4 H7 H8
        go_wp2_with (first | (refine wpList_load_row_g 28 (.tmp 5) rfl B rfl rfl 28 _ (0, 0) _ (H9.out.get (i := 2) rfl) Try.underlying28 rfl (msg_info _ _ _ _ _ _ _) ?_) | (refine wpList_load_row_g 28 (.tmp 13) rfl g13 rfl rfl 28 _ (0, 0) _ (H9.out.get (i := 0) rfl) Try.underlying28 rfl (msg_info _ _ _ _ _ _ _) ?_))
        generalize w8.alloc (.cells #[.int .u8 kd, .int .u32 tc, .int .u32 m, .int .u32 tk, .int .u32 hs, .slice A7 pn c7, .slice A8 cn c8] 28) = w9 at *
        clear hg13
        refine (said_any kd tc m tk hs P C _ w9 (HMR.out _ (H9.out.fact (i := 4) rfl) (H9.out.fact (i := 5) rfl)) (by have := HOK.out.2.2; omega)).mono ?_
        rintro e w10 ⟨v10, rfl, hv10, hb10⟩
        have H10 := Aside0.mk (H9.out.call hb10)
        have HB10 := Aside0.mk (HB8.out.trans (hb10.mono HB8.out.size))
        clear hb10 H9 HB8
        go_wp2_with (first | (refine wpList_load_row_g 28 (.tmp 5) rfl B rfl rfl 28 _ (0, 0) _ (H10.out.get (i := 2) rfl) Try.underlying28 rfl (msg_info _ _ _ _ _ _ _) ?_) | (refine wpList_load_row_g 28 (.tmp 13) rfl g13 rfl rfl 28 _ (0, 0) _ (H10.out.get (i := 0) rfl) Try.underlying28 rfl (msg_info _ _ _ _ _ _ _) ?_))
        refine (say_any kd tc m tk hs P C _ w10 hv10 HOK.out.1 HRH.out).mono ?_
        rintro e w11 ⟨v11, rfl, hv11, hb11⟩
        rw [HSB.out] at hv11
        obtain ⟨A11, c11, rfl, hc11, hC11⟩ := hv11
        rw [HBL.out.1] at hc11 hC11
        rw [HBL.out.1]
        have H11 := Aside0.mk (H10.out.call hb11)
        have HB11 := Aside0.mk (HB10.out.trans (hb11.mono HB10.out.size))
        clear hb11 hv10 H10 HB10
        go_wp2_with (first | (refine wpList_load_row_g 28 (.tmp 5) rfl B rfl rfl 28 _ (0, 0) _ (H11.out.get (i := 2) rfl) Try.underlying28 rfl (msg_info _ _ _ _ _ _ _) ?_) | (refine wpList_load_row_g 28 (.tmp 13) rfl g13 rfl rfl 28 _ (0, 0) _ (H11.out.get (i := 0) rfl) Try.underlying28 rfl (msg_info _ _ _ _ _ _ _) ?_))
        refine (same_told fb fb _ _ w11 ⟨Ab, cb, by rw [HBL.out.1], by rw [HBL.out.1]; exact HBL.out.2, by rw [HBL.out.1]; exact (Ru_C (H11.out.fact (i := 0) rfl)).2.2⟩ ⟨A11, c11, by rw [HBL.out.1], by rw [HBL.out.1]; exact hc11, by rw [HBL.out.1]; exact hC11⟩).mono ?_
        rintro e w12 ⟨rfl, hb12⟩
        rw [decide_eq_true (show fb = fb from rfl)]
        have H12 := Aside0.mk (H11.out.call hb12)
        have HB12 := Aside0.mk (HB11.out.trans (hb12.mono HB11.out.size))
        clear hb12 hC11 hc11 H11 HB11
        go_wp2_with (first | (refine wpList_load_row_g 28 (.tmp 5) rfl B rfl rfl 28 _ (0, 0) _ (H12.out.get (i := 2) rfl) Try.underlying28 rfl (msg_info _ _ _ _ _ _ _) ?_) | (refine wpList_load_row_g 28 (.tmp 13) rfl g13 rfl rfl 28 _ (0, 0) _ (H12.out.get (i := 0) rfl) Try.underlying28 rfl (msg_info _ _ _ _ _ _ _) ?_))
        refine (mlike_any _ _ _ _ _ _ _ _ _ _ P P C C _ _ w12 (HX7.out w12 HB12.out) (HMR.out _ (H12.out.fact (i := 4) rfl) (H12.out.fact (i := 5) rfl)) HOK.out.1.2.2.2.2.2.1 HOK.out.1.2.2.2.2.2.1 (by have := HOK.out.2.2; omega) (by have := HOK.out.2.2; omega) true (by simp)).mono ?_
        rintro e w13 ⟨rfl, hb13⟩
        have H13 := Aside0.mk (H12.out.call hb13).rest
        clear hb13 H12 HX7 HB12
        go_wp2_with fail
        refine (join_any _ _ _ [fb] _ (C_one_row rfl (Ru_C (H13.out.fact (i := 0) rfl)).2.2 HBL.out.2) (Nat.le_refl _) (by have h1 := HFBB.out.2; simp; omega)).mono ?_
        rintro e w14 ⟨v14, rfl, hv14, hbw14⟩
        rw [List.flatten_cons, List.flatten_nil, List.append_nil] at hv14
        have hown := Kd.own_of_R (enc := Value.int .u8) (h1 := fun _ => rfl) hv14
        obtain ⟨ge, ce2, rfl, hge, hgl⟩ := hown.form (by rw [HBL.out.1]; have := HBP.out; omega)
        have hjl : a % bl < fb.length := by rw [HBL.out.1]; exact Nat.mod_lt _ (by have := HBP.out; omega)
        have hje : (a : Int) % (bl : Int) = ((a % bl : Nat) : Int) := rfl
        obtain ⟨b, hbe, hbl8⟩ := HFBB.out.1.nat hjl
        have hat2 := own_at (k := .u8) hown ((a % bl : Nat) : Int) (by omega) (by omega)
        rw [Int.toNat_natCast, rd_getElem hjl, hbe] at hat2
        obtain ⟨hcq, hfq⟩ := hat2
        have hx : bits .xor .u8 (b : Int) (tn : Int) = ((b ^^^ tn : Nat) : Int) := u8_xor_nat b tn hbl8 (by have := HAT.out; omega)
        have hxl : b ^^^ tn < 256 := Nat.xor_lt_two_pow (n := 8) (by omega) (by have := HAT.out; omega)
        have hput := R_put8 hv14 (x := ((b ^^^ tn : Nat) : Int)) hjl
        obtain ⟨E, hE⟩ : ∃ E, fb.set (a % bl) ((b ^^^ tn : Nat) : Int) = E := ⟨_, rfl⟩
        have HEB : Aside0 (Bytes E ∧ E.length = bl) := ⟨by
          rw [← hE]
          refine ⟨fun y hy => ?_, by rw [List.length_set, HBL.out.1]⟩
          rcases List.mem_or_eq_of_mem_set hy with h | h
          · exact HFBB.out.1 y h
          · rw [h]; omega⟩
        rw [hE, HBL.out.1] at hput
        have HCE : Aside0 (bl ≤ ce2) := ⟨by have := (Ru_C hv14).2.1; rw [HBL.out.1] at this; exact this⟩
        have H15 := Aside0.mk ((H13.out.box _).row (hbw14.setCell (p := ⟨ge, a % bl, none⟩) hge _) hput)
        have hbl1 : (1 : Int) ≤ (bl : Int) := by omega
        have hj1 : (0 : Int) ≤ ((a % bl : Nat) : Int) := by omega
        have hj2 : ((a % bl : Nat) : Int) < (bl : Int) := by have := Nat.mod_lt a (show 0 < bl by omega); omega
        have ha0 : (0 : Int) ≤ (a : Int) := by omega
        have ha1 : (a : Int) ≤ 65535 := by have := HAT.out; omega
        have ht1 : (tn : Int) ≤ 255 := by have := HAT.out; omega
        rw [HBL.out.1]
        have HJE := Lib.hid hje
        clear hown hv14 hbw14 hbe hE hput hge hgl hjl H13
        generalize a % bl = j0 at *
        have hje2 := HJE.out
        clear HJE hje
        go_wp2_with fail
        go_meet
        exact ⟨E, some ⟨ge, 0, none⟩, ce2, by rw [HEB.out.2], ⟨by rw [HEB.out.2]; exact HCE.out, HEB.out.1, by rw [HEB.out.2]; exact HBP.out.2, by rw [HEB.out.2]; exact H15.out⟩⟩
    case rest =>
      clear hd0 hd1 H7
      obtain ⟨E, Af, cf, rfl, hE⟩ := hcut
      have HEF : Aside0 (Bytes E ∧ E.length ≤ 550) := ⟨hE.out.2.1, hE.out.2.2.1⟩
      have HH := Aside0.mk hE.out.2.2.2
      have HCF := Aside0.mk hE.out.1
      obtain ⟨el, hel⟩ : ∃ n, E.length = n := ⟨_, rfl⟩
      rw [hel] at HH HCF
      rw [hel]
      clear hE hel
      go_wp2_with fail
      refine (join_any _ 2 2 [fb, Q] _ (C_of_two (blk_new _ _) (Kd.C_alloc (Ru_C (HH.out.fact (i := 1) rfl)).2.2 _) HBL.out.2 (Kd.C_alloc (Ru_C (HH.out.fact (i := 2) rfl)).2.2 _) HQL.out.2) (Nat.le_refl _) (by have h1 := HBL.out.1; have h2 := HQB.out.2; have h3 := HFBB.out.2; simp; omega)).mono ?_
      rintro e x1 ⟨v1, rfl, hv1, hbx1⟩
      rw [show [fb, Q].flatten = fb ++ Q by simp] at hv1
      obtain ⟨Aj, cj, rfl, hcj, _⟩ := Kd.R_reads hv1
      have HJ := Aside0.mk ((HH.out.box _).row hbx1 hv1)
      have HCJ := Aside0.mk hcj
      clear hbx1 hv1 hcj HH
      obtain ⟨jl, hjl⟩ : ∃ jl, (fb ++ Q).length = jl := ⟨_, rfl⟩
      rw [hjl] at HJ HCJ
      rw [hjl]
      clear hjl
      go_wp2_with fail
      obtain ⟨g0, hg0⟩ : ∃ g0, x1.heap.size = g0 := ⟨_, rfl⟩
      have HX := Aside0.mk (HJ.out.box (.cells #[.slice Af el cf, .slice Aq ql cq, .slice Aj jl cj, .slice none 0 0] 23))
      have HC3 : (Kd.slice 5 (Kd.int .u8)).C (x1.alloc (.cells #[.slice Af el cf, .slice Aq ql cq, .slice Aj jl cj, .slice none 0 0] 23)) (some ⟨g0, 0, none⟩) 4 [E, Q, fb ++ Q, []] := by
        subst hg0
        exact C_of_four (blk_new _ _) (Kd.C_alloc (Ru_C (HJ.out.fact (i := 1) rfl)).2.2 _) HCF.out (Kd.C_alloc (Ru_C (HJ.out.fact (i := 3) rfl)).2.2 _) HQL.out.2 (Kd.C_alloc (Ru_C (HJ.out.fact (i := 0) rfl)).2.2 _) HCJ.out (Kd.C_nil _ _) (Nat.le_refl _)
      have HALL : Aside0 (∀ y ∈ [E, Q, fb ++ Q, []], Bytes y ∧ y.length ≤ 1000) := ⟨by
        have h1 := HFBB.out.2
        have h2 := HQB.out.2
        intro y hy
        simp only [List.mem_cons, List.not_mem_nil, or_false] at hy
        rcases hy with rfl | rfl | rfl | rfl
        · exact ⟨HEF.out.1, by have := HEF.out.2; omega⟩
        · exact ⟨HQB.out.1, by omega⟩
        · exact ⟨HFBB.out.1.append HQB.out.1, by rw [List.length_append]; omega⟩
        · exact ⟨Bytes.nil, by simp⟩⟩
      try rw [hg0]
      have HXM := Aside0.mk (HMR.out _ (HX.out.fact (i := 6) rfl) (HX.out.fact (i := 7) rfl))
      have HXM' := Aside0.mk (HMR'.out _ (HX.out.fact (i := 4) rfl) (HX.out.fact (i := 5) rfl))
      have HXB := Aside0.mk (HX.out.get (i := 1) rfl)
      have HXG := Aside0.mk (HX.out.get (i := 0) rfl)
      have HXL : Aside0 (Below B w00 (x1.alloc (.cells #[.slice Af el cf, .slice Aq ql cq, .slice Aj jl cj, .slice none 0 0] 23)) ∧ B ≤ (x1.alloc (.cells #[.slice Af el cf, .slice Aq ql cq, .slice Aj jl cj, .slice none 0 0] 23)).heap.size) := ⟨HX.out.bel, HX.out.le⟩
      clear HX
      generalize x1.alloc (.cells #[.slice Af el cf, .slice Aq ql cq, .slice Aj jl cj, .slice none 0 0] 23) = X at *
      obtain ⟨LL, hLL⟩ : ∃ LL, [E, Q, fb ++ Q, []] = LL := ⟨_, rfl⟩
      have H3L : Aside0 (LL.length = 4) := ⟨by rw [← hLL]; rfl⟩
      rw [hLL] at HC3 HALL
      have HFL : Aside0 (∀ z, Below X.heap.size X z → (Kd.slice 5 (Kd.int .u8)).C z (some ⟨g0, 0, none⟩) 4 LL) := ⟨fun z hz => Kd.C_below HC3 hz⟩
      clear hLL HC3 HJ hg0
      go_loopw [95] (fun v95 wr => ∃ j : Nat, j ≤ 4 ∧ v95 = .int .i64 j ∧ Aside0 (Below X.heap.size X wr)) (fun v95 _ => 4 - (intOf v95).toNat)
      case atStart => exact ⟨0, by omega, rfl, ⟨Below.refl _ _⟩⟩
      case round =>
        obtain ⟨j, hj, rfl, HR⟩ := hrel
        by_cases hlt : j < 4
        · have d1 : decide (j < 4) = true := decide_eq_true hlt
          have hj3 : (j : Int) < 4 := by omega
          have hj0 : (0 : Int) ≤ j := by omega
          obtain ⟨Ax, cx, hcell, hcx, hCx⟩ := rows_at (HFL.out wr HR.out) j (by have := H3L.out; omega)
          obtain ⟨q, hq⟩ : ∃ q, LL[j]'(by have := H3L.out; omega) = q := ⟨_, rfl⟩
          have HBQ := Aside0.mk (HALL.out q (by rw [← hq]; exact List.getElem_mem _))
          rw [hq] at hcell hcx hCx
          obtain ⟨xl, hxl⟩ : ∃ xl, q.length = xl := ⟨_, rfl⟩
          have HXN := Aside0.mk hxl
          rw [hxl] at hcell hcx hCx
          have HFX : Aside0 (∀ z, Below wr.heap.size wr z → (Kd.int .u8).C z Ax xl q) := ⟨fun z hz => Kd.C_below hCx hz⟩
          have HCX := Aside0.mk hcx
          clear hcx hCx hq hxl
          go_wp2_with fail
          clear hcell
          refine (mread_any Ax xl cx q wr (HFX.out wr (Below.refl _ _)) HCX.out (by have := HBQ.out.2; have := HXN.out; omega) HBQ.out.1).mono ?_
          rintro e y1 ⟨⟨u1, rfl, hu1⟩, hby1⟩
          have HPB := Aside0.mk (readR_ok q HBQ.out.1)
          have KRR := Aside0.mk (fun (z : World) (h : Below wr.heap.size wr z) => rread_any Ax xl cx q z (HFX.out z h) HCX.out (by have := HBQ.out.2; have := HXN.out; omega) HBQ.out.1)
          unfold RReadM at KRR
          obtain ⟨⟨β, zk, zt, zm, ztk, zhs, zP, zC⟩, hz⟩ : ∃ r, readR q = r := ⟨_, rfl⟩
          rw [hz] at hu1 HPB KRR
          rw [hz]
          simp only at hu1 HPB KRR ⊢
          clear hz
          obtain ⟨er, her⟩ : ∃ er : Int, (if β = true then (0 : Int) else 2) = er := ⟨_, rfl⟩
          have HER := Aside0.mk her
          rw [her]
          clear her
          obtain ⟨A5, c5, A6, c6, rfl, hc5, hc6, hD1, hD2⟩ := hu1
          obtain ⟨zl, hzl⟩ : ∃ z, zP.length = z := ⟨_, rfl⟩
          obtain ⟨zn, hzn⟩ : ∃ z, zC.length = z := ⟨_, rfl⟩
          have HZL := Aside0.mk (And.intro hzl hzn)
          rw [hzl] at hc5 hD1
          rw [hzn] at hc6 hD2
          rw [hzl, hzn]
          clear hzl hzn
          obtain ⟨g17, hg17⟩ : ∃ g, y1.heap.size = g := ⟨_, rfl⟩
          have HY1 : Aside0 (Below wr.heap.size wr (y1.alloc (.cells #[.int .u8 zk, .int .u32 zt, .int .u32 zm, .int .u32 ztk, .int .u32 zhs, .slice A5 zl c5, .slice A6 zn c6] 28))) := ⟨below_alloc hby1 _⟩
          have hb17 : (y1.alloc (.cells #[.int .u8 zk, .int .u32 zt, .int .u32 zm, .int .u32 ztk, .int .u32 zhs, .slice A5 zl c5, .slice A6 zn c6] 28)).heap[g17]? = some (.cells #[.int .u8 zk, .int .u32 zt, .int .u32 zm, .int .u32 ztk, .int .u32 zhs, .slice A5 zl c5, .slice A6 zn c6] 28 (0, 0)) := by subst hg17; exact blk_new _ _
          have HD2 : Aside0 (MsC (y1.alloc (.cells #[.int .u8 zk, .int .u32 zt, .int .u32 zm, .int .u32 ztk, .int .u32 zhs, .slice A5 zl c5, .slice A6 zn c6] 28)) zk zt zm ztk zhs zP zC (.agg #[.int .u8 zk, .int .u32 zt, .int .u32 zm, .int .u32 ztk, .int .u32 zhs, .slice A5 zl c5, .slice A6 zn c6]) ∧ (y1.alloc (.cells #[.int .u8 zk, .int .u32 zt, .int .u32 zm, .int .u32 ztk, .int .u32 zhs, .slice A5 zl c5, .slice A6 zn c6] 28)).heap[g17]? = some (.cells #[.int .u8 zk, .int .u32 zt, .int .u32 zm, .int .u32 ztk, .int .u32 zhs, .slice A5 zl c5, .slice A6 zn c6] 28 (0, 0))) := ⟨⟨A5, c5, A6, c6, by rw [HZL.out.1, HZL.out.2], by rw [HZL.out.1]; exact hc5, by rw [HZL.out.2]; exact hc6, by rw [HZL.out.1]; exact Kd.C_alloc hD1 _, by rw [HZL.out.2]; exact Kd.C_alloc hD2 _⟩, hb17⟩
          clear hby1 hD1 hD2 hb17 hc5 hc6
          go_wp2_with fail
          try rw [hg17]
          clear hg17
          generalize y1.alloc (.cells #[.int .u8 zk, .int .u32 zt, .int .u32 zm, .int .u32 ztk, .int .u32 zhs, .slice A5 zl c5, .slice A6 zn c6] 28) = Y at *
          refine (KRR.out Y HY1.out).mono ?_
          rintro e y2 ⟨⟨u2, rfl, hu2⟩, hby2⟩
          obtain ⟨A7, c7, A8, c8, rfl, hc7, hc8, hR1, hR2⟩ := hu2
          rw [HZL.out.1] at hc7 hR1
          rw [List.length_map, HZL.out.2] at hc8 hR2
          rw [HZL.out.1, List.length_map, HZL.out.2]
          obtain ⟨g19, hg19⟩ : ∃ g, y2.heap.size = g := ⟨_, rfl⟩
          have hbY : Below Y.heap.size Y (y2.alloc (.cells #[.int .u8 zk, .int .u32 zt, .int .u32 zm, .int .u32 ztk, .int .u32 zhs, .slice A7 zl c7, .slice A8 zn c8] 39)) := below_alloc hby2 _
          have HX3 : Aside0 (Below X.heap.size X (y2.alloc (.cells #[.int .u8 zk, .int .u32 zt, .int .u32 zm, .int .u32 ztk, .int .u32 zhs, .slice A7 zl c7, .slice A8 zn c8] 39))) := ⟨(HR.out.trans (HY1.out.mono HR.out.size)).trans (hbY.mono (Nat.le_trans HR.out.size HY1.out.size))⟩
          have hb19 : (y2.alloc (.cells #[.int .u8 zk, .int .u32 zt, .int .u32 zm, .int .u32 ztk, .int .u32 zhs, .slice A7 zl c7, .slice A8 zn c8] 39)).heap[g19]? = some (.cells #[.int .u8 zk, .int .u32 zt, .int .u32 zm, .int .u32 ztk, .int .u32 zhs, .slice A7 zl c7, .slice A8 zn c8] 39 (0, 0)) := by subst hg19; exact blk_new _ _
          have HBK : Aside0 (MsC (y2.alloc (.cells #[.int .u8 zk, .int .u32 zt, .int .u32 zm, .int .u32 ztk, .int .u32 zhs, .slice A7 zl c7, .slice A8 zn c8] 39)) zk zt zm ztk zhs zP zC (.agg #[.int .u8 zk, .int .u32 zt, .int .u32 zm, .int .u32 ztk, .int .u32 zhs, .slice A5 zl c5, .slice A6 zn c6]) ∧ DrC (y2.alloc (.cells #[.int .u8 zk, .int .u32 zt, .int .u32 zm, .int .u32 ztk, .int .u32 zhs, .slice A7 zl c7, .slice A8 zn c8] 39)) ztk zhs zP (zC.map toR) (.agg #[.int .u32 ztk, .int .u32 zhs, .slice A7 zl c7, .slice A8 zn c8]) ∧ (y2.alloc (.cells #[.int .u8 zk, .int .u32 zt, .int .u32 zm, .int .u32 ztk, .int .u32 zhs, .slice A7 zl c7, .slice A8 zn c8] 39)).heap[g17]? = some (.cells #[.int .u8 zk, .int .u32 zt, .int .u32 zm, .int .u32 ztk, .int .u32 zhs, .slice A5 zl c5, .slice A6 zn c6] 28 (0, 0)) ∧ (y2.alloc (.cells #[.int .u8 zk, .int .u32 zt, .int .u32 zm, .int .u32 ztk, .int .u32 zhs, .slice A7 zl c7, .slice A8 zn c8] 39)).heap[g19]? = some (.cells #[.int .u8 zk, .int .u32 zt, .int .u32 zm, .int .u32 ztk, .int .u32 zhs, .slice A7 zl c7, .slice A8 zn c8] 39 (0, 0))) := ⟨HD2.out.1.below hbY, ⟨A7, c7, A8, c8, by rw [HZL.out.1, List.length_map, HZL.out.2], by rw [HZL.out.1]; exact hc7, by rw [List.length_map, HZL.out.2]; exact hc8, by rw [HZL.out.1]; exact Kd.C_alloc hR1 _, by rw [List.length_map, HZL.out.2]; exact Kd.C_alloc hR2 _⟩, blk_below HD2.out.2 hbY, hb19⟩
          clear hby2 hR1 hR2 hbY hb19 HD2 HY1 HFX hc7 hc8 KRR
          have hb17 := HBK.out.2.2.1
          go_wp2_with (first | (refine wpList_load_row_g 28 (.tmp 17) rfl g17 rfl rfl 28 _ (0, 0) _ hb17 Try.underlying28 rfl (msg_info _ _ _ _ _ _ _) ?_))
          try rw [hg19]
          clear hg19 hb17
          generalize y2.alloc (.cells #[.int .u8 zk, .int .u32 zt, .int .u32 zm, .int .u32 ztk, .int .u32 zhs, .slice A7 zl c7, .slice A8 zn c8] 39) = X2 at *
          refine (said_any zk zt zm ztk zhs zP zC _ X2 HBK.out.1 (by have := HPB.out.2; omega)).mono ?_
          rintro e y3 ⟨v3, rfl, hv3, hby3⟩
          obtain ⟨A9, c9, Aa, ca, rfl, hc9, hca, hS1, hS2⟩ := hv3
          rw [HZL.out.1] at hc9 hS1
          rw [List.length_map, HZL.out.2] at hca hS2
          rw [HZL.out.1, List.length_map, HZL.out.2]
          obtain ⟨g21, hg21⟩ : ∃ g, y3.heap.size = g := ⟨_, rfl⟩
          have hbZ : Below X2.heap.size X2 (y3.alloc (.cells #[.int .u8 zk, .int .u32 zt, .int .u32 zm, .int .u32 ztk, .int .u32 zhs, .slice A9 zl c9, .slice Aa zn ca] 39)) := below_alloc hby3 _
          have HX4 : Aside0 (Below X.heap.size X (y3.alloc (.cells #[.int .u8 zk, .int .u32 zt, .int .u32 zm, .int .u32 ztk, .int .u32 zhs, .slice A9 zl c9, .slice Aa zn ca] 39))) := ⟨HX3.out.trans (hbZ.mono HX3.out.size)⟩
          have hb21 : (y3.alloc (.cells #[.int .u8 zk, .int .u32 zt, .int .u32 zm, .int .u32 ztk, .int .u32 zhs, .slice A9 zl c9, .slice Aa zn ca] 39)).heap[g21]? = some (.cells #[.int .u8 zk, .int .u32 zt, .int .u32 zm, .int .u32 ztk, .int .u32 zhs, .slice A9 zl c9, .slice Aa zn ca] 39 (0, 0)) := by subst hg21; exact blk_new _ _
          have HBZ : Aside0 (DrC (y3.alloc (.cells #[.int .u8 zk, .int .u32 zt, .int .u32 zm, .int .u32 ztk, .int .u32 zhs, .slice A9 zl c9, .slice Aa zn ca] 39)) ztk zhs zP (zC.map toR) (.agg #[.int .u32 ztk, .int .u32 zhs, .slice A7 zl c7, .slice A8 zn c8]) ∧ DrC (y3.alloc (.cells #[.int .u8 zk, .int .u32 zt, .int .u32 zm, .int .u32 ztk, .int .u32 zhs, .slice A9 zl c9, .slice Aa zn ca] 39)) ztk zhs zP (zC.map toR) (.agg #[.int .u32 ztk, .int .u32 zhs, .slice A9 zl c9, .slice Aa zn ca]) ∧ (y3.alloc (.cells #[.int .u8 zk, .int .u32 zt, .int .u32 zm, .int .u32 ztk, .int .u32 zhs, .slice A9 zl c9, .slice Aa zn ca] 39)).heap[g19]? = some (.cells #[.int .u8 zk, .int .u32 zt, .int .u32 zm, .int .u32 ztk, .int .u32 zhs, .slice A7 zl c7, .slice A8 zn c8] 39 (0, 0)) ∧ (y3.alloc (.cells #[.int .u8 zk, .int .u32 zt, .int .u32 zm, .int .u32 ztk, .int .u32 zhs, .slice A9 zl c9, .slice Aa zn ca] 39)).heap[g21]? = some (.cells #[.int .u8 zk, .int .u32 zt, .int .u32 zm, .int .u32 ztk, .int .u32 zhs, .slice A9 zl c9, .slice Aa zn ca] 39 (0, 0))) := ⟨HBK.out.2.1.below hbZ, ⟨A9, c9, Aa, ca, by rw [HZL.out.1, List.length_map, HZL.out.2], by rw [HZL.out.1]; exact hc9, by rw [List.length_map, HZL.out.2]; exact hca, by rw [HZL.out.1]; exact Kd.C_alloc hS1 _, by rw [List.length_map, HZL.out.2]; exact Kd.C_alloc hS2 _⟩, blk_below HBK.out.2.2.2 hbZ, hb21⟩
          clear hby3 hS1 hS2 hbZ hb21 HX3 HBK hc9 hca
          obtain ⟨X3, hX3⟩ : ∃ W, y3.alloc (.cells #[.int .u8 zk, .int .u32 zt, .int .u32 zm, .int .u32 ztk, .int .u32 zhs, .slice A9 zl c9, .slice Aa zn ca] 39) = W := ⟨_, rfl⟩
          rw [hX3] at HBZ HX4
          have HB19 : Aside0 (∀ z, Below X3.heap.size X3 z → z.heap[g19]? = some (.cells #[.int .u8 zk, .int .u32 zt, .int .u32 zm, .int .u32 ztk, .int .u32 zhs, .slice A7 zl c7, .slice A8 zn c8] 39 (0, 0)) ∧ z.heap[g21]? = some (.cells #[.int .u8 zk, .int .u32 zt, .int .u32 zm, .int .u32 ztk, .int .u32 zhs, .slice A9 zl c9, .slice Aa zn ca] 39 (0, 0))) := ⟨fun z hz => ⟨blk_below HBZ.out.2.2.1 hz, blk_below HBZ.out.2.2.2 hz⟩⟩
          have HDZ0 : Aside0 (DrC X3 ztk zhs zP (zC.map toR) (.agg #[.int .u32 ztk, .int .u32 zhs, .slice A7 zl c7, .slice A8 zn c8]) ∧ DrC X3 ztk zhs zP (zC.map toR) (.agg #[.int .u32 ztk, .int .u32 zhs, .slice A9 zl c9, .slice Aa zn ca])) := ⟨HBZ.out.1, HBZ.out.2.1⟩
          clear HBZ
          have h19 := (HB19.out X3 (Below.refl _ _)).1
          have h21 := (HB19.out X3 (Below.refl _ _)).2
          have y0_ := blk_cell h19 0
          have z0_ := blk_cell h21 0
          have y1_ := blk_cell h19 1
          have z1_ := blk_cell h21 1
          have y2_ := blk_cell h19 2
          have z2_ := blk_cell h21 2
          have y3_ := blk_cell h19 3
          have z3_ := blk_cell h21 3
          have y4_ := blk_cell h19 4
          have z4_ := blk_cell h21 4
          have y5_ := blk_cell h19 5
          have z5_ := blk_cell h21 5
          have y6_ := blk_cell h19 6
          have z6_ := blk_cell h21 6
          clear h19 h21 HB19
          cases β with
          | true =>
            have her : er = 0 := by rw [← HER.out]; rfl
            subst her
            go_wp2_with fail
            clear y0_ y1_ y2_ y3_ y4_ y5_ y6_ z0_ z1_ z2_ z3_ z4_ z5_ z6_ hX3 hg21
            refine (rsame7G_any ztk zhs ztk zhs zP zP (zC.map toR) (zC.map toR) _ _ X3 HDZ0.out.2 HDZ0.out.1 HPB.out.1 HPB.out.1 (by rw [List.length_map]; have := HPB.out.2; omega) (by rw [List.length_map]; have := HPB.out.2; omega) true (by simp)).mono ?_
            rintro e y9 ⟨rfl, hb9⟩
            have HX5 : Aside0 (Below X.heap.size X y9) := ⟨HX4.out.trans (hb9.mono HX4.out.size)⟩
            clear hb9
            go_wp2_with fail
            go_roundw
            case rel => exact ⟨j + 1, by omega, rfl, HX5⟩
            case measure => simp only [intOf]; omega
          | false =>
            have her : er = 2 := by rw [← HER.out]; rfl
            subst her
            go_wp2_with fail
            clear y0_ y1_ y2_ y3_ y4_ y5_ y6_ z0_ z1_ z2_ z3_ z4_ z5_ z6_ hX3 hg21
            refine (rsame7G_any ztk zhs ztk zhs zP zP (zC.map toR) (zC.map toR) _ _ X3 HDZ0.out.2 HDZ0.out.1 HPB.out.1 HPB.out.1 (by rw [List.length_map]; have := HPB.out.2; omega) (by rw [List.length_map]; have := HPB.out.2; omega) true (by simp)).mono ?_
            rintro e y9 ⟨rfl, hb9⟩
            have HX5 : Aside0 (Below X.heap.size X y9) := ⟨HX4.out.trans (hb9.mono HX4.out.size)⟩
            clear hb9
            go_wp2_with fail
            go_roundw
            case rel => exact ⟨j + 1, by omega, rfl, HX5⟩
            case measure => simp only [intOf]; omega
        · obtain rfl : j = 4 := by omega
          have HXF : Aside0 (∀ z, Below wr.heap.size wr z → MsC z kd tc m tk hs P C (.agg #[.int .u8 kd, .int .u32 tc, .int .u32 m, .int .u32 tk, .int .u32 hs, .slice Ap pn cp, .slice Ac cn cc]) ∧ MsC z kd' tc' m' tk' hs' P' C' (.agg #[.int .u8 kd', .int .u32 tc', .int .u32 m', .int .u32 tk', .int .u32 hs', .slice Ap' pn' cp', .slice Ac' cn' cc']) ∧ z.heap[B]? = some (.cells #[.int .u8 kd, .int .u32 tc, .int .u32 m, .int .u32 tk, .int .u32 hs, .slice Ap pn cp, .slice Ac cn cc] 28 (0, 0)) ∧ z.heap[gb]? = some (.cells #[.int .u8 kd', .int .u32 tc', .int .u32 m', .int .u32 tk', .int .u32 hs', .slice Ap' pn' cp', .slice Ac' cn' cc'] 28 (0, 0))) := ⟨fun z hz => by
            have h0 := HR.out.trans (hz.mono HR.out.size)
            exact ⟨HXM.out.below h0, HXM'.out.below h0, blk_below HXB.out h0, blk_below HXG.out h0⟩⟩
          clear HFL HALL HXM HXM' HXB HXG
          go_wp2_with fail
          have HPN : Aside0 ((P.length = pn ∧ C.length = cn ∧ pn ≤ cp ∧ cn ≤ cc ∧ (Kd.int .u8).C wr Ap pn P ∧ k59.C wr Ac cn C) ∧ (P'.length = pn' ∧ C'.length = cn' ∧ pn' ≤ cp' ∧ cn' ≤ cc' ∧ (Kd.int .u8).C wr Ap' pn' P' ∧ k59.C wr Ac' cn' C')) := ⟨by
            obtain ⟨_, _, _, _, h1, h2, h3, h4, h5⟩ := (HXF.out wr (Below.refl _ _)).1
            obtain ⟨_, _, _, _, g1, g2, g3, g4', g5⟩ := (HXF.out wr (Below.refl _ _)).2.1
            simp only [Value.agg.injEq, Array.mk.injEq, List.cons.injEq, Value.slice.injEq, and_true, true_and] at h1 g1
            obtain ⟨⟨rfl, rfl, rfl⟩, rfl, rfl, rfl⟩ := h1
            obtain ⟨⟨rfl, rfl, rfl⟩, rfl, rfl, rfl⟩ := g1
            exact ⟨⟨rfl, rfl, h2, h3, h4, h5⟩, ⟨rfl, rfl, g2, g3, g4', g5⟩⟩⟩
          refine region_fills (W := wr) [(4, 6, 1), (5, 7, 3)] #[.int .u8 0, .int .u32 0, .int .u32 0, .int .u32 0, .int .u32 0, .slice none 0 0, .slice none 0 0] 39
            [fun _ v => v = .agg #[.int .u8 kd, .int .u32 tc, .int .u32 m, .int .u32 tk, .int .u32 hs, .slice Ap pn cp, .slice Ac cn cc],
             fun (w : World) (v : Value) => ∃ B6 e6, v = .agg #[.int .u8 kd, .int .u32 tc, .int .u32 m, .int .u32 tk, .int .u32 hs, .slice Ap pn cp, .slice B6 cn e6] ∧ cn ≤ e6 ∧ k97.R 97 w wr.heap.size (fun _ => True) (.slice B6 cn e6) (C.map toR),
             fun _ v => v = .agg #[.int .u8 kd', .int .u32 tc', .int .u32 m', .int .u32 tk', .int .u32 hs', .slice Ap' pn' cp', .slice Ac' cn' cc'],
             fun (w : World) (v : Value) => ∃ B6 e6, v = .agg #[.int .u8 kd', .int .u32 tc', .int .u32 m', .int .u32 tk', .int .u32 hs', .slice Ap' pn' cp', .slice B6 cn' e6] ∧ cn' ≤ e6 ∧ k97.R 97 w wr.heap.size (fun _ => True) (.slice B6 cn' e6) (C'.map toR),
             fun _ _ => True,
             fun _ _ => True,
             fun _ _ => True,
             fun _ _ => True]
            (fun j =>  none)
            [(0, some 153), (1, some 154), (2, some 155), (3, some 156), (4, some 22), (5, some 23), (6, none), (7, none)]
            []
            (by kernel_rfl) (by kernel_rfl) (by kernel_rfl) (by kernel_rfl) (by kernel_rfl) ?y23_2g ?y23_2s ?y23_2v ?y23_2a ⟨?y23_2o0, ?y23_2o1, ?y23_2o2, ?y23_2o3, ?y23_2o4, ?y23_2o5, ?y23_2o6, ?y23_2o7, trivial⟩ ?y23_2e
          case y23_2g =>
            intro j hj; cases hj
          case y23_2s =>
            refine ⟨(fun F w w' v hf h => h), (fun F w w' v hf h => let ⟨B6, e6, h1, h2, h3⟩ := h; ⟨B6, e6, h1, h2, R_fills h3 rfl (by decide) hf⟩), (fun F w w' v hf h => h), (fun F w w' v hf h => let ⟨B6, e6, h1, h2, h3⟩ := h; ⟨B6, e6, h1, h2, R_fills h3 rfl (by decide) hf⟩), (fun F w w' v hf h => h), (fun F w w' v hf h => h), (fun F w w' v hf h => h), (fun F w w' v hf h => h), trivial⟩
          case y23_2v =>
            intro f hf
            simp only [List.mem_cons, List.not_mem_nil, or_false] at hf
            rcases hf with rfl | rfl
            · exact ⟨fun _ _ => trivial, fun _ _ => trivial⟩
            · exact ⟨fun _ _ => trivial, fun _ _ => trivial⟩
          case y23_2a =>
            intro f hf w v hv
            simp only [List.mem_cons, List.not_mem_nil, or_false] at hf
            rcases hf with rfl | rfl
            · replace hv : (fun (w : World) (v : Value) => ∃ B6 e6, v = .agg #[.int .u8 kd, .int .u32 tc, .int .u32 m, .int .u32 tk, .int .u32 hs, .slice Ap pn cp, .slice B6 cn e6] ∧ cn ≤ e6 ∧ k97.R 97 w wr.heap.size (fun _ => True) (.slice B6 cn e6) (C.map toR)) w v := hv; obtain ⟨B5, e5, q5, _⟩ := hv; exact ⟨_, q5⟩
            · replace hv : (fun (w : World) (v : Value) => ∃ B6 e6, v = .agg #[.int .u8 kd', .int .u32 tc', .int .u32 m', .int .u32 tk', .int .u32 hs', .slice Ap' pn' cp', .slice B6 cn' e6] ∧ cn' ≤ e6 ∧ k97.R 97 w wr.heap.size (fun _ => True) (.slice B6 cn' e6) (C'.map toR)) w v := hv; obtain ⟨B5, e5, q5, _⟩ := hv; exact ⟨_, q5⟩
          case y23_2o0 =>
            intro vs w hb hV
            rw [if_pos (by kernel_rfl)]
            generalize hρ : rho _ _ _ vs = ρ
            have e5 : ρ (.tmp 5) = .pointer (some ⟨B, 0, none⟩) := by rw [← hρ]; kernel_rfl
            clear hρ hV
            exact runs_load 28 (.tmp 5) rfl B e5 28 #[.int .u8 kd, .int .u32 tc, .int .u32 m, .int .u32 tk, .int .u32 hs, .slice Ap pn cp, .slice Ac cn cc] (0, 0) _ (HXF.out w hb).2.2.1 Try.underlying28 rfl (msg_info _ _ _ _ _ _ _) ⟨Below.refl _ _, rfl⟩
          case y23_2o1 =>
            intro vs w hb hV
            rw [if_pos (by kernel_rfl)]
            generalize hρ : rho _ _ _ vs = ρ
            have d153 : (vs 0) = .agg #[.int .u8 kd, .int .u32 tc, .int .u32 m, .int .u32 tk, .int .u32 hs, .slice Ap pn cp, .slice Ac cn cc] := hV 0 (by kernel_rfl)
            have e153 : ρ (.tmp 153) = vs 0 := by rw [← hρ]; kernel_rfl
            rw [d153] at e153; clear d153
            have ef15 : ρ (.func 15) = .func (.func 15) #[] #[] := by rw [← hρ]; rfl
            clear hρ hV
            refine runs_call (f := 15) (args := #[.agg #[.int .u8 kd, .int .u32 tc, .int .u32 m, .int .u32 tk, .int .u32 hs, .slice Ap pn cp, .slice Ac cn cc]]) (w' := w) ?_ ?_
            · go_simp
            · have KS := saidS_any kd tc m tk hs P C Ap cp Ac cc w (by rw [HPN.out.1.1]; exact HPN.out.1.2.2.1) (by rw [HPN.out.1.2.1]; exact HPN.out.1.2.2.2.1) (by rw [HPN.out.1.1]; exact Kd.C_below HPN.out.1.2.2.2.2.1 hb) (by rw [HPN.out.1.2.1]; exact Kd.C_below HPN.out.1.2.2.2.2.2 hb) (by have := HOK.out.2.2; omega)
              rw [HPN.out.1.1, HPN.out.1.2.1] at KS
              refine KS.mono ?_
              rintro e w5 ⟨A5, e5, rfl, k1, k2, hb5⟩
              exact ⟨_, rfl, hb5, A5, e5, rfl, k1, Kd.R_mono (Kd.R_lower k2 hb.size) (fun _ _ => trivial)⟩
          case y23_2o2 =>
            intro vs w hb hV
            rw [if_pos (by kernel_rfl)]
            generalize hρ : rho _ _ _ vs = ρ
            have e9 : ρ (.tmp 9) = .pointer (some ⟨gb, 0, none⟩) := by rw [← hρ]; kernel_rfl
            clear hρ hV
            exact runs_load 28 (.tmp 9) rfl gb e9 28 #[.int .u8 kd', .int .u32 tc', .int .u32 m', .int .u32 tk', .int .u32 hs', .slice Ap' pn' cp', .slice Ac' cn' cc'] (0, 0) _ (HXF.out w hb).2.2.2 Try.underlying28 rfl (msg_info _ _ _ _ _ _ _) ⟨Below.refl _ _, rfl⟩
          case y23_2o3 =>
            intro vs w hb hV
            rw [if_pos (by kernel_rfl)]
            generalize hρ : rho _ _ _ vs = ρ
            have d155 : (vs 2) = .agg #[.int .u8 kd', .int .u32 tc', .int .u32 m', .int .u32 tk', .int .u32 hs', .slice Ap' pn' cp', .slice Ac' cn' cc'] := hV 2 (by kernel_rfl)
            have e155 : ρ (.tmp 155) = vs 2 := by rw [← hρ]; kernel_rfl
            rw [d155] at e155; clear d155
            have ef15 : ρ (.func 15) = .func (.func 15) #[] #[] := by rw [← hρ]; rfl
            clear hρ hV
            refine runs_call (f := 15) (args := #[.agg #[.int .u8 kd', .int .u32 tc', .int .u32 m', .int .u32 tk', .int .u32 hs', .slice Ap' pn' cp', .slice Ac' cn' cc']]) (w' := w) ?_ ?_
            · go_simp
            · have KS := saidS_any kd' tc' m' tk' hs' P' C' Ap' cp' Ac' cc' w (by rw [HPN.out.2.1]; exact HPN.out.2.2.2.1) (by rw [HPN.out.2.2.1]; exact HPN.out.2.2.2.2.1) (by rw [HPN.out.2.1]; exact Kd.C_below HPN.out.2.2.2.2.2.1 hb) (by rw [HPN.out.2.2.1]; exact Kd.C_below HPN.out.2.2.2.2.2.2 hb) (by have := HOK'.out.2.2; omega)
              rw [HPN.out.2.1, HPN.out.2.2.1] at KS
              refine KS.mono ?_
              rintro e w5 ⟨A5, e5, rfl, k1, k2, hb5⟩
              exact ⟨_, rfl, hb5, A5, e5, rfl, k1, Kd.R_mono (Kd.R_lower k2 hb.size) (fun _ _ => trivial)⟩
          case y23_2o4 =>
            intro vs w
            generalize hρ : rho _ _ _ vs = ρ
            clear hρ
            refine runs_val (v := .pointer (some ⟨w.heap.size, 0, none⟩)) (w' := w.alloc (.cells #[.int .u8 0, .int .u32 0, .int .u32 0, .int .u32 0, .int .u32 0, .slice none 0 0, .slice none 0 0] 39)) ?_ ⟨rfl, rfl⟩
            go_simp
          case y23_2o5 =>
            intro vs w
            generalize hρ : rho _ _ _ vs = ρ
            clear hρ
            refine runs_val (v := .pointer (some ⟨w.heap.size, 0, none⟩)) (w' := w.alloc (.cells #[.int .u8 0, .int .u32 0, .int .u32 0, .int .u32 0, .int .u32 0, .slice none 0 0, .slice none 0 0] 39)) ?_ ⟨rfl, rfl⟩
            go_simp
          case y23_2o6 =>
            intro vs w g cur cs hb hV hg0 hcs hcur hcsz
            replace hg0 : vs 4 = .pointer (some ⟨g, 0, none⟩) := hg0
            replace hcs : vs 1 = .agg cs := hcs
            generalize hρ : rho _ _ _ vs = ρ
            have d22 : (fun (w : World) (v : Value) => True) w (vs 4) := hV 4 (by kernel_rfl)
            have e22 : ρ (.tmp 22) = vs 4 := by rw [← hρ]; kernel_rfl
            have d154 : (fun (w : World) (v : Value) => ∃ B6 e6, v = .agg #[.int .u8 kd, .int .u32 tc, .int .u32 m, .int .u32 tk, .int .u32 hs, .slice Ap pn cp, .slice B6 cn e6] ∧ cn ≤ e6 ∧ k97.R 97 w wr.heap.size (fun _ => True) (.slice B6 cn e6) (C.map toR)) w (vs 1) := hV 1 (by kernel_rfl)
            have e154 : ρ (.tmp 154) = vs 1 := by rw [← hρ]; kernel_rfl
            clear hρ hV
            rw [hg0] at e22
            rw [hcs] at e154
            obtain ⟨B5, e5, q5, _⟩ := d154; rw [hcs] at q5; injection q5 with q5; subst q5; exact runs_store_row 39 (.tmp 22) (.tmp 154) rfl g _ e22 e154 39 cur hcur (rmsg_info _ _ _ _ _ _ _) hcsz (by simp [Value.oneCell']) rfl
          case y23_2o7 =>
            intro vs w g cur cs hb hV hg0 hcs hcur hcsz
            replace hg0 : vs 5 = .pointer (some ⟨g, 0, none⟩) := hg0
            replace hcs : vs 3 = .agg cs := hcs
            generalize hρ : rho _ _ _ vs = ρ
            have d23 : (fun (w : World) (v : Value) => True) w (vs 5) := hV 5 (by kernel_rfl)
            have e23 : ρ (.tmp 23) = vs 5 := by rw [← hρ]; kernel_rfl
            have d156 : (fun (w : World) (v : Value) => ∃ B6 e6, v = .agg #[.int .u8 kd', .int .u32 tc', .int .u32 m', .int .u32 tk', .int .u32 hs', .slice Ap' pn' cp', .slice B6 cn' e6] ∧ cn' ≤ e6 ∧ k97.R 97 w wr.heap.size (fun _ => True) (.slice B6 cn' e6) (C'.map toR)) w (vs 3) := hV 3 (by kernel_rfl)
            have e156 : ρ (.tmp 156) = vs 3 := by rw [← hρ]; kernel_rfl
            clear hρ hV
            rw [hg0] at e23
            rw [hcs] at e156
            obtain ⟨B5, e5, q5, _⟩ := d156; rw [hcs] at q5; injection q5 with q5; subst q5; exact runs_store_row 39 (.tmp 23) (.tmp 156) rfl g _ e23 e156 39 cur hcur (rmsg_info _ _ _ _ _ _ _) hcsz (by simp [Value.oneCell']) rfl
          case y23_2e =>
            intro vs X5 hb5 hV hFill hNe
            obtain ⟨g22, cs22, hgP22, hgB22, hgV22, hgF22⟩ := hFill (4, 6, 1) (by simp)
            replace hgP22 : vs 4 = .pointer (some ⟨g22, 0, none⟩) := hgP22
            replace hgV22 : vs 1 = .agg cs22 := hgV22
            obtain ⟨g23, cs23, hgP23, hgB23, hgV23, hgF23⟩ := hFill (5, 7, 3) (by simp)
            replace hgP23 : vs 5 = .pointer (some ⟨g23, 0, none⟩) := hgP23
            replace hgV23 : vs 3 = .agg cs23 := hgV23
            have hne22_23 : g22 ≠ g23 := fun e => hNe (4, 6, 1) (by simp) (5, 7, 3) (by simp) (by decide) (show vs 4 = vs 5 by rw [hgP22, hgP23, e])
            have d153 : (vs 0) = .agg #[.int .u8 kd, .int .u32 tc, .int .u32 m, .int .u32 tk, .int .u32 hs, .slice Ap pn cp, .slice Ac cn cc] := hV 0 (Nat.le_of_ble_eq_true rfl)
            have d154 : (fun (w : World) (v : Value) => ∃ B6 e6, v = .agg #[.int .u8 kd, .int .u32 tc, .int .u32 m, .int .u32 tk, .int .u32 hs, .slice Ap pn cp, .slice B6 cn e6] ∧ cn ≤ e6 ∧ k97.R 97 w wr.heap.size (fun _ => True) (.slice B6 cn e6) (C.map toR)) X5 (vs 1) := hV 1 (Nat.le_of_ble_eq_true rfl)
            have d155 : (vs 2) = .agg #[.int .u8 kd', .int .u32 tc', .int .u32 m', .int .u32 tk', .int .u32 hs', .slice Ap' pn' cp', .slice Ac' cn' cc'] := hV 2 (Nat.le_of_ble_eq_true rfl)
            have d156 : (fun (w : World) (v : Value) => ∃ B6 e6, v = .agg #[.int .u8 kd', .int .u32 tc', .int .u32 m', .int .u32 tk', .int .u32 hs', .slice Ap' pn' cp', .slice B6 cn' e6] ∧ cn' ≤ e6 ∧ k97.R 97 w wr.heap.size (fun _ => True) (.slice B6 cn' e6) (C'.map toR)) X5 (vs 3) := hV 3 (Nat.le_of_ble_eq_true rfl)
            clear hV hFill hNe
            simp only [putAll]
            rw [hgV22] at d154
            rw [hgV23] at d156
            rw [d153, d155, hgP22, hgP23, hgV22, hgV23]
            clear d153 d155 hgP22 hgP23 hgV22 hgV23
            generalize vs 6 = vN6
            generalize vs 7 = vN7
            clear vs
            simp only [Act.put, List.setIfInBounds_toArray, List.set_cons_zero, List.set_cons_succ]
            obtain ⟨B6, e6, q6, le6, r6⟩ := d154
            injection q6 with q6
            subst q6
            obtain ⟨B8, e8, q8, le8, r8⟩ := d156
            injection q8 with q8
            subst q8
            have HG : Aside0 (∀ z, Below X5.heap.size X5 z → z.heap[g22]? = some (.cells #[.int .u8 kd, .int .u32 tc, .int .u32 m, .int .u32 tk, .int .u32 hs, .slice Ap pn cp, .slice B6 cn e6] 39 (0, 0)) ∧ z.heap[g23]? = some (.cells #[.int .u8 kd', .int .u32 tc', .int .u32 m', .int .u32 tk', .int .u32 hs', .slice Ap' pn' cp', .slice B8 cn' e8] 39 (0, 0)) ∧ MsC z kd tc m tk hs P C (.agg #[.int .u8 kd, .int .u32 tc, .int .u32 m, .int .u32 tk, .int .u32 hs, .slice Ap pn cp, .slice Ac cn cc]) ∧ MsC z kd' tc' m' tk' hs' P' C' (.agg #[.int .u8 kd', .int .u32 tc', .int .u32 m', .int .u32 tk', .int .u32 hs', .slice Ap' pn' cp', .slice Ac' cn' cc']) ∧ z.heap[B]? = some (.cells #[.int .u8 kd, .int .u32 tc, .int .u32 m, .int .u32 tk, .int .u32 hs, .slice Ap pn cp, .slice Ac cn cc] 28 (0, 0)) ∧ z.heap[gb]? = some (.cells #[.int .u8 kd', .int .u32 tc', .int .u32 m', .int .u32 tk', .int .u32 hs', .slice Ap' pn' cp', .slice Ac' cn' cc'] 28 (0, 0)) ∧ DrC z tk hs P (C.map toR) (.agg #[.int .u32 tk, .int .u32 hs, .slice Ap pn cp, .slice B6 cn e6]) ∧ DrC z tk' hs' P' (C'.map toR) (.agg #[.int .u32 tk', .int .u32 hs', .slice Ap' pn' cp', .slice B8 cn' e8])) := ⟨fun z hz => by
              have hz5 := hb5.trans (hz.mono hb5.size)
              exact ⟨blk_below hgF22 hz, blk_below hgF23 hz, (HXF.out z hz5).1, (HXF.out z hz5).2.1, (HXF.out z hz5).2.2.1, (HXF.out z hz5).2.2.2, ⟨Ap, cp, B6, e6, by rw [HPN.out.1.1, List.length_map, HPN.out.1.2.1], by rw [HPN.out.1.1]; exact HPN.out.1.2.2.1, by rw [List.length_map, HPN.out.1.2.1]; exact le6, by rw [HPN.out.1.1]; exact Kd.C_below HPN.out.1.2.2.2.2.1 hz5, by rw [List.length_map, HPN.out.1.2.1]; exact (Ru_C (Kd.R_below r6 hz)).2.2⟩, ⟨Ap', cp', B8, e8, by rw [HPN.out.2.1, List.length_map, HPN.out.2.2.1], by rw [HPN.out.2.1]; exact HPN.out.2.2.2.1, by rw [List.length_map, HPN.out.2.2.1]; exact le8, by rw [HPN.out.2.1]; exact Kd.C_below HPN.out.2.2.2.2.2.1 hz5, by rw [List.length_map, HPN.out.2.2.1]; exact (Ru_C (Kd.R_below r8 hz)).2.2⟩⟩⟩
            have HB5 : Aside0 (Below B w00 X5 ∧ B ≤ X5.heap.size) := ⟨(HXL.out.1.trans (HR.out.mono HXL.out.2)).trans (hb5.mono (Nat.le_trans HXL.out.2 HR.out.size)), Nat.le_trans (Nat.le_trans HXL.out.2 HR.out.size) hb5.size⟩
            clear hb5 hgB22 hgF22 hgB23 hgF23 hne22_23 r6 r8 le6 le8 HXF
            obtain ⟨β, hβ⟩ : ∃ β : Bool, β = true ↔ kd = kd' ∧ tc = tc' ∧ m = m' ∧ tk = tk' ∧ hs = hs' ∧ P = P' ∧ C = C' := ex_bool _
            obtain ⟨γ, hγ⟩ : ∃ γ : Bool, γ = true ↔ tk = tk' ∧ hs = hs' ∧ P = P' ∧ C.map toR = C'.map toR := ex_bool _
            have HBE := Aside0.mk hβ
            have HGM := Aside0.mk hγ
            obtain ⟨c0, h0⟩ : ∃ b, (kd == kd') = b := ⟨_, rfl⟩
            obtain ⟨b1, h1⟩ : ∃ b, (tc == tc') = b := ⟨_, rfl⟩
            obtain ⟨b2, h2⟩ : ∃ b, (m == m') = b := ⟨_, rfl⟩
            have HC3 : Aside0 ((((c0 && b1) && b2) && γ) = β) := ⟨by
              rw [Bool.eq_iff_iff, hβ, ← h0, ← h1, ← h2]
              simp only [Bool.and_eq_true, beq_iff_eq, hγ, mapR_inj]
              constructor
              · rintro ⟨⟨⟨a, b⟩, c⟩, d, e, f, g⟩; exact ⟨a, b, c, d, e, f, g⟩
              · rintro ⟨a, b, c, d, e, f, g⟩; exact ⟨⟨⟨a, b⟩, c⟩, d, e, f, g⟩⟩
            obtain ⟨c1, q1⟩ : ∃ b, (c0 && b1) = b := ⟨_, rfl⟩
            rw [q1] at HC3
            obtain ⟨c2, q2⟩ : ∃ b, (c1 && b2) = b := ⟨_, rfl⟩
            rw [q2] at HC3
            have HC0 := Aside0.mk h0
            have HB1 := Aside0.mk h1
            have HB2 := Aside0.mk h2
            have HC1 := Aside0.mk q1
            have HC2 := Aside0.mk q2
            clear h0 h1 h2 q1 q2 hβ hγ
            go_wp2_with fail
            refine region_grown (W := X5)
              [fun (w : World) (v : Value) => v = .agg #[.int .u8 kd, .int .u32 tc, .int .u32 m, .int .u32 tk, .int .u32 hs, .slice Ap pn cp, .slice Ac cn cc],
               fun (w : World) (v : Value) => v = .agg #[.int .u8 kd', .int .u32 tc', .int .u32 m', .int .u32 tk', .int .u32 hs', .slice Ap' pn' cp', .slice Ac' cn' cc'],
               fun (w : World) (v : Value) => v = .bool β,
               fun (w : World) (v : Value) => v = .pointer (some ⟨g22, 0, none⟩),
               fun (w : World) (v : Value) => v = .int .u8 kd,
               fun (w : World) (v : Value) => v = .pointer (some ⟨g23, 0, none⟩),
               fun (w : World) (v : Value) => v = .int .u8 kd',
               fun (w : World) (v : Value) => v = .bool c0,
               fun (w : World) (v : Value) => v = .bool c0,
               fun (w : World) (v : Value) => v = (if c0 = true then .pointer (some ⟨g22, 1, none⟩) else undef),
               fun (w : World) (v : Value) => v = (if c0 = true then .int .u32 tc else undef),
               fun (w : World) (v : Value) => v = (if c0 = true then .pointer (some ⟨g23, 1, none⟩) else undef),
               fun (w : World) (v : Value) => v = (if c0 = true then .int .u32 tc' else undef),
               fun (w : World) (v : Value) => v = (if c0 = true then .bool b1 else undef),
               fun (w : World) (v : Value) => v = .bool c1,
               fun (w : World) (v : Value) => v = .bool c1,
               fun (w : World) (v : Value) => v = (if c1 = true then .pointer (some ⟨g22, 2, none⟩) else undef),
               fun (w : World) (v : Value) => v = (if c1 = true then .int .u32 m else undef),
               fun (w : World) (v : Value) => v = (if c1 = true then .pointer (some ⟨g23, 2, none⟩) else undef),
               fun (w : World) (v : Value) => v = (if c1 = true then .int .u32 m' else undef),
               fun (w : World) (v : Value) => v = (if c1 = true then .bool b2 else undef),
               fun (w : World) (v : Value) => v = .bool c2,
               fun (w : World) (v : Value) => v = .bool c2,
               fun (w : World) (v : Value) => v = (if c2 = true then .pointer (some ⟨g22, 3, none⟩) else undef),
               fun (w : World) (v : Value) => v = (if c2 = true then .agg #[.int .u32 tk, .int .u32 hs, .slice Ap pn cp, .slice B6 cn e6] else undef),
               fun (w : World) (v : Value) => v = (if c2 = true then .pointer (some ⟨g23, 3, none⟩) else undef),
               fun (w : World) (v : Value) => v = (if c2 = true then .agg #[.int .u32 tk', .int .u32 hs', .slice Ap' pn' cp', .slice B8 cn' e8] else undef),
               fun (w : World) (v : Value) => v = (if c2 = true then .bool γ else undef),
               fun (w : World) (v : Value) => v = .bool β,
               fun (w : World) (v : Value) => v = .bool true,
               fun (w : World) (v : Value) => v = .bool true]
              (fun j => if j = 8 then some c0 else if j = 15 then some c1 else if j = 22 then some c2 else none)
              [(0, some 157), (1, some 158), (2, some 159), (3, some 160), (4, some 161), (5, some 162), (6, some 163), (7, some 164), (8, some 165), (9, some 166), (10, some 167), (11, some 168), (12, some 169), (13, some 170), (14, some 171), (15, some 172), (16, some 173), (17, some 174), (18, some 175), (19, some 176), (20, some 177), (21, some 178), (22, some 179), (23, some 180), (24, some 181), (25, some 182), (26, some 183), (27, some 184), (28, some 185), (29, some 186), (30, some 10)]
              [8, 15, 22]
              (by kernel_rfl) (by kernel_rfl) (by kernel_rfl) (by kernel_rfl) ?r24_3g ?r24_3s ⟨?r24_3o0, ?r24_3o1, ?r24_3o2, ?r24_3o3, ?r24_3o4, ?r24_3o5, ?r24_3o6, ?r24_3o7, ?r24_3o8, ?r24_3o9, ?r24_3o10, ?r24_3o11, ?r24_3o12, ?r24_3o13, ?r24_3o14, ?r24_3o15, ?r24_3o16, ?r24_3o17, ?r24_3o18, ?r24_3o19, ?r24_3o20, ?r24_3o21, ?r24_3o22, ?r24_3o23, ?r24_3o24, ?r24_3o25, ?r24_3o26, ?r24_3o27, ?r24_3o28, ?r24_3o29, ?r24_3o30, trivial⟩ ?r24_3e
            case r24_3g =>
              intro j hj w v hv
              simp only [List.mem_cons, List.not_mem_nil, or_false] at hj
              rcases hj with rfl | rfl | rfl
              · have hv' : v = .bool c0 := hv; rw [hv']; rfl
              · have hv' : v = .bool c1 := hv; rw [hv']; rfl
              · have hv' : v = .bool c2 := hv; rw [hv']; rfl
            case r24_3s =>
              refine ⟨(fun w w' v hb h => h), (fun w w' v hb h => h), (fun w w' v hb h => h), (fun w w' v hb h => h), (fun w w' v hb h => h), (fun w w' v hb h => h), (fun w w' v hb h => h), (fun w w' v hb h => h), (fun w w' v hb h => h), (fun w w' v hb h => h), (fun w w' v hb h => h), (fun w w' v hb h => h), (fun w w' v hb h => h), (fun w w' v hb h => h), (fun w w' v hb h => h), (fun w w' v hb h => h), (fun w w' v hb h => h), (fun w w' v hb h => h), (fun w w' v hb h => h), (fun w w' v hb h => h), (fun w w' v hb h => h), (fun w w' v hb h => h), (fun w w' v hb h => h), (fun w w' v hb h => h), (fun w w' v hb h => h), (fun w w' v hb h => h), (fun w w' v hb h => h), (fun w w' v hb h => h), (fun w w' v hb h => h), (fun w w' v hb h => h), (fun w w' v hb h => h), trivial⟩
            case r24_3o0 =>
              intro vs w hb hV
              rw [if_pos (by first | kernel_rfl | rfl)]
              generalize hρ : rho _ _ _ vs = ρ
              have e5 : ρ (.tmp 5) = .pointer (some ⟨B, 0, none⟩) := by rw [← hρ]; kernel_rfl
              clear hρ hV
              exact runs_load 28 (.tmp 5) rfl B e5 28 #[.int .u8 kd, .int .u32 tc, .int .u32 m, .int .u32 tk, .int .u32 hs, .slice Ap pn cp, .slice Ac cn cc] (0, 0) _ (HG.out w hb).2.2.2.2.1 Try.underlying28 rfl (msg_info _ _ _ _ _ _ _) ⟨Below.refl _ _, rfl⟩
            case r24_3o1 =>
              intro vs w hb hV
              rw [if_pos (by first | kernel_rfl | rfl)]
              generalize hρ : rho _ _ _ vs = ρ
              have e9 : ρ (.tmp 9) = .pointer (some ⟨gb, 0, none⟩) := by rw [← hρ]; kernel_rfl
              clear hρ hV
              exact runs_load 28 (.tmp 9) rfl gb e9 28 #[.int .u8 kd', .int .u32 tc', .int .u32 m', .int .u32 tk', .int .u32 hs', .slice Ap' pn' cp', .slice Ac' cn' cc'] (0, 0) _ (HG.out w hb).2.2.2.2.2.1 Try.underlying28 rfl (msg_info _ _ _ _ _ _ _) ⟨Below.refl _ _, rfl⟩
            case r24_3o2 =>
              intro vs w hb hV
              rw [if_pos (by first | kernel_rfl | rfl)]
              generalize hρ : rho _ _ _ vs = ρ
              have d157 : (vs 0) = .agg #[.int .u8 kd, .int .u32 tc, .int .u32 m, .int .u32 tk, .int .u32 hs, .slice Ap pn cp, .slice Ac cn cc] := hV 0 (by first | kernel_rfl | rfl)
              have e157 : ρ (.tmp 157) = vs 0 := by rw [← hρ]; kernel_rfl
              rw [d157] at e157; clear d157
              have d158 : (vs 1) = .agg #[.int .u8 kd', .int .u32 tc', .int .u32 m', .int .u32 tk', .int .u32 hs', .slice Ap' pn' cp', .slice Ac' cn' cc'] := hV 1 (by first | kernel_rfl | rfl)
              have e158 : ρ (.tmp 158) = vs 1 := by rw [← hρ]; kernel_rfl
              rw [d158] at e158; clear d158
              have ef20 : ρ (.func 20) = .func (.func 20) #[] #[] := by rw [← hρ]; rfl
              clear hρ hV
              refine runs_call (f := 20) (args := #[.agg #[.int .u8 kd, .int .u32 tc, .int .u32 m, .int .u32 tk, .int .u32 hs, .slice Ap pn cp, .slice Ac cn cc], .agg #[.int .u8 kd', .int .u32 tc', .int .u32 m', .int .u32 tk', .int .u32 hs', .slice Ap' pn' cp', .slice Ac' cn' cc']]) (w' := w) ?_ ?_
              · go_simp
              · refine (mlike_any _ _ _ _ _ _ _ _ _ _ P P' C C' _ _ w (HG.out w hb).2.2.1 (HG.out w hb).2.2.2.1 HOK.out.1.2.2.2.2.2.1 HOK'.out.1.2.2.2.2.2.1 (by have := HOK.out.2.2; omega) (by have := HOK'.out.2.2; omega) β HBE.out).mono ?_
                rintro e w5 ⟨rfl, hb5⟩
                exact ⟨_, rfl, hb5, rfl⟩
            case r24_3o3 =>
              intro vs w hb hV
              rw [if_pos (by first | kernel_rfl | rfl)]
              generalize hρ : rho _ _ _ vs = ρ
              have e22 : ρ (.tmp 22) = .pointer (some ⟨g22, 0, none⟩) := by rw [← hρ]; kernel_rfl
              clear hρ hV
              refine runs_val (v := .pointer (some ⟨g22, 0, none⟩)) (w' := w) ?_ ⟨Below.refl _ _, rfl⟩
              go_simp <;> (first | exact IntWalk.u64_in _ (by omega) | exact IntWalk.u32_in _ (by omega) | exact IntWalk.u16_in _ (by omega) | exact IntWalk.u8_in _ (by omega) | exact IntWalk.i64_in _ (by omega) | skip)
            case r24_3o4 =>
              intro vs w hb hV
              rw [if_pos (by first | kernel_rfl | rfl)]
              generalize hρ : rho _ _ _ vs = ρ
              have d160 : (vs 3) = .pointer (some ⟨g22, 0, none⟩) := hV 3 (by first | kernel_rfl | rfl)
              have e160 : ρ (.tmp 160) = vs 3 := by rw [← hρ]; kernel_rfl
              rw [d160] at e160; clear d160
              clear hρ hV
              have c0 := blk_cell ((HG.out w hb).1) 0
              refine runs_val (v := .int .u8 kd) (w' := w) ?_ ⟨Below.refl _ _, rfl⟩
              go_simp
            case r24_3o5 =>
              intro vs w hb hV
              rw [if_pos (by first | kernel_rfl | rfl)]
              generalize hρ : rho _ _ _ vs = ρ
              have e23 : ρ (.tmp 23) = .pointer (some ⟨g23, 0, none⟩) := by rw [← hρ]; kernel_rfl
              clear hρ hV
              refine runs_val (v := .pointer (some ⟨g23, 0, none⟩)) (w' := w) ?_ ⟨Below.refl _ _, rfl⟩
              go_simp <;> (first | exact IntWalk.u64_in _ (by omega) | exact IntWalk.u32_in _ (by omega) | exact IntWalk.u16_in _ (by omega) | exact IntWalk.u8_in _ (by omega) | exact IntWalk.i64_in _ (by omega) | skip)
            case r24_3o6 =>
              intro vs w hb hV
              rw [if_pos (by first | kernel_rfl | rfl)]
              generalize hρ : rho _ _ _ vs = ρ
              have d162 : (vs 5) = .pointer (some ⟨g23, 0, none⟩) := hV 5 (by first | kernel_rfl | rfl)
              have e162 : ρ (.tmp 162) = vs 5 := by rw [← hρ]; kernel_rfl
              rw [d162] at e162; clear d162
              clear hρ hV
              have c0 := blk_cell ((HG.out w hb).2.1) 0
              refine runs_val (v := .int .u8 kd') (w' := w) ?_ ⟨Below.refl _ _, rfl⟩
              go_simp
            case r24_3o7 =>
              intro vs w hb hV
              rw [if_pos (by first | kernel_rfl | rfl)]
              generalize hρ : rho _ _ _ vs = ρ
              have d161 : (vs 4) = .int .u8 kd := hV 4 (by first | kernel_rfl | rfl)
              have e161 : ρ (.tmp 161) = vs 4 := by rw [← hρ]; kernel_rfl
              rw [d161] at e161; clear d161
              have d163 : (vs 6) = .int .u8 kd' := hV 6 (by first | kernel_rfl | rfl)
              have e163 : ρ (.tmp 163) = vs 6 := by rw [← hρ]; kernel_rfl
              rw [d163] at e163; clear d163
              clear hρ hV
              have hh := HC0.out
              refine runs_val (v := .bool c0) (w' := w) ?_ ⟨Below.refl _ _, rfl⟩
              rw [← hh]
              go_simp
            case r24_3o8 =>
              intro vs w hb hV
              rw [if_pos (by first | kernel_rfl | rfl)]
              generalize hρ : rho _ _ _ vs = ρ
              have d164 : (vs 7) = .bool c0 := hV 7 (by first | kernel_rfl | rfl)
              have e164 : ρ (.tmp 164) = vs 7 := by rw [← hρ]; kernel_rfl
              clear hρ hV
              refine runs_val (v := vs 7) (w' := w) ?_ ⟨Below.refl _ _, d164⟩
              go_simp
            case r24_3o9 =>
              intro vs w hb hV
              cases c0 with
              | false => (rw [if_neg (fun h => absurd (show false = true from h) Bool.false_ne_true)]) <;> exact rfl
              | true =>
                rw [if_pos (by first | kernel_rfl | rfl)]
                generalize hρ : rho _ _ _ vs = ρ
                have e22 : ρ (.tmp 22) = .pointer (some ⟨g22, 0, none⟩) := by rw [← hρ]; kernel_rfl
                clear hρ hV
                refine runs_val (v := .pointer (some ⟨g22, 1, none⟩)) (w' := w) ?_ ⟨Below.refl _ _, rfl⟩
                go_simp <;> (first | exact IntWalk.u64_in _ (by omega) | exact IntWalk.u32_in _ (by omega) | exact IntWalk.u16_in _ (by omega) | exact IntWalk.u8_in _ (by omega) | exact IntWalk.i64_in _ (by omega) | skip)
            case r24_3o10 =>
              intro vs w hb hV
              cases c0 with
              | false => (rw [if_neg (fun h => absurd (show false = true from h) Bool.false_ne_true)]) <;> exact rfl
              | true =>
                rw [if_pos (by first | kernel_rfl | rfl)]
                generalize hρ : rho _ _ _ vs = ρ
                have d166 : (vs 9) = .pointer (some ⟨g22, 1, none⟩) := hV 9 (by first | kernel_rfl | rfl)
                have e166 : ρ (.tmp 166) = vs 9 := by rw [← hρ]; kernel_rfl
                rw [d166] at e166; clear d166
                clear hρ hV
                have c0 := blk_cell ((HG.out w hb).1) 1
                refine runs_val (v := .int .u32 tc) (w' := w) ?_ ⟨Below.refl _ _, rfl⟩
                go_simp
            case r24_3o11 =>
              intro vs w hb hV
              cases c0 with
              | false => (rw [if_neg (fun h => absurd (show false = true from h) Bool.false_ne_true)]) <;> exact rfl
              | true =>
                rw [if_pos (by first | kernel_rfl | rfl)]
                generalize hρ : rho _ _ _ vs = ρ
                have e23 : ρ (.tmp 23) = .pointer (some ⟨g23, 0, none⟩) := by rw [← hρ]; kernel_rfl
                clear hρ hV
                refine runs_val (v := .pointer (some ⟨g23, 1, none⟩)) (w' := w) ?_ ⟨Below.refl _ _, rfl⟩
                go_simp <;> (first | exact IntWalk.u64_in _ (by omega) | exact IntWalk.u32_in _ (by omega) | exact IntWalk.u16_in _ (by omega) | exact IntWalk.u8_in _ (by omega) | exact IntWalk.i64_in _ (by omega) | skip)
            case r24_3o12 =>
              intro vs w hb hV
              cases c0 with
              | false => (rw [if_neg (fun h => absurd (show false = true from h) Bool.false_ne_true)]) <;> exact rfl
              | true =>
                rw [if_pos (by first | kernel_rfl | rfl)]
                generalize hρ : rho _ _ _ vs = ρ
                have d168 : (vs 11) = .pointer (some ⟨g23, 1, none⟩) := hV 11 (by first | kernel_rfl | rfl)
                have e168 : ρ (.tmp 168) = vs 11 := by rw [← hρ]; kernel_rfl
                rw [d168] at e168; clear d168
                clear hρ hV
                have c0 := blk_cell ((HG.out w hb).2.1) 1
                refine runs_val (v := .int .u32 tc') (w' := w) ?_ ⟨Below.refl _ _, rfl⟩
                go_simp
            case r24_3o13 =>
              intro vs w hb hV
              cases c0 with
              | false => (rw [if_neg (fun h => absurd (show false = true from h) Bool.false_ne_true)]) <;> exact rfl
              | true =>
                rw [if_pos (by first | kernel_rfl | rfl)]
                generalize hρ : rho _ _ _ vs = ρ
                have d167 : (vs 10) = .int .u32 tc := hV 10 (by first | kernel_rfl | rfl)
                have e167 : ρ (.tmp 167) = vs 10 := by rw [← hρ]; kernel_rfl
                rw [d167] at e167; clear d167
                have d169 : (vs 12) = .int .u32 tc' := hV 12 (by first | kernel_rfl | rfl)
                have e169 : ρ (.tmp 169) = vs 12 := by rw [← hρ]; kernel_rfl
                rw [d169] at e169; clear d169
                clear hρ hV
                have hh := HB1.out
                refine runs_val (v := .bool b1) (w' := w) ?_ ⟨Below.refl _ _, rfl⟩
                rw [← hh]
                go_simp
            case r24_3o14 =>
              intro vs w hb hV
              rw [if_pos (by first | kernel_rfl | rfl)]
              generalize hρ : rho _ _ _ vs = ρ
              have d165 : (vs 8) = .bool c0 := hV 8 (by first | kernel_rfl | rfl)
              have e165 : ρ (.tmp 165) = vs 8 := by rw [← hρ]; kernel_rfl
              rw [d165] at e165; clear d165
              have d170 : (vs 13) = (if c0 = true then .bool b1 else undef) := hV 13 (by first | kernel_rfl | rfl)
              have e170 : ρ (.tmp 170) = vs 13 := by rw [← hρ]; kernel_rfl
              rw [d170] at e170; clear d170
              have econ : ∀ v : Value, ρ (.const v) = v := fun v => by rw [← hρ]; rfl
              clear hρ hV
              have hh := HC1.out
              cases c0 <;> simp only [if_true, if_false, Bool.false_eq_true, Bool.true_and, Bool.false_and] at e170 hh <;> subst hh <;> refine runs_val (v := _) (w' := w) ?_ ⟨Below.refl _ _, rfl⟩ <;> go_simp
            case r24_3o15 =>
              intro vs w hb hV
              rw [if_pos (by first | kernel_rfl | rfl)]
              generalize hρ : rho _ _ _ vs = ρ
              have d171 : (vs 14) = .bool c1 := hV 14 (by first | kernel_rfl | rfl)
              have e171 : ρ (.tmp 171) = vs 14 := by rw [← hρ]; kernel_rfl
              clear hρ hV
              refine runs_val (v := vs 14) (w' := w) ?_ ⟨Below.refl _ _, d171⟩
              go_simp
            case r24_3o16 =>
              intro vs w hb hV
              cases c1 with
              | false => (rw [if_neg (fun h => absurd (show false = true from h) Bool.false_ne_true)]) <;> exact rfl
              | true =>
                rw [if_pos (by first | kernel_rfl | rfl)]
                generalize hρ : rho _ _ _ vs = ρ
                have e22 : ρ (.tmp 22) = .pointer (some ⟨g22, 0, none⟩) := by rw [← hρ]; kernel_rfl
                clear hρ hV
                refine runs_val (v := .pointer (some ⟨g22, 2, none⟩)) (w' := w) ?_ ⟨Below.refl _ _, rfl⟩
                go_simp <;> (first | exact IntWalk.u64_in _ (by omega) | exact IntWalk.u32_in _ (by omega) | exact IntWalk.u16_in _ (by omega) | exact IntWalk.u8_in _ (by omega) | exact IntWalk.i64_in _ (by omega) | skip)
            case r24_3o17 =>
              intro vs w hb hV
              cases c1 with
              | false => (rw [if_neg (fun h => absurd (show false = true from h) Bool.false_ne_true)]) <;> exact rfl
              | true =>
                rw [if_pos (by first | kernel_rfl | rfl)]
                generalize hρ : rho _ _ _ vs = ρ
                have d173 : (vs 16) = .pointer (some ⟨g22, 2, none⟩) := hV 16 (by first | kernel_rfl | rfl)
                have e173 : ρ (.tmp 173) = vs 16 := by rw [← hρ]; kernel_rfl
                rw [d173] at e173; clear d173
                clear hρ hV
                have c0 := blk_cell ((HG.out w hb).1) 2
                refine runs_val (v := .int .u32 m) (w' := w) ?_ ⟨Below.refl _ _, rfl⟩
                go_simp
            case r24_3o18 =>
              intro vs w hb hV
              cases c1 with
              | false => (rw [if_neg (fun h => absurd (show false = true from h) Bool.false_ne_true)]) <;> exact rfl
              | true =>
                rw [if_pos (by first | kernel_rfl | rfl)]
                generalize hρ : rho _ _ _ vs = ρ
                have e23 : ρ (.tmp 23) = .pointer (some ⟨g23, 0, none⟩) := by rw [← hρ]; kernel_rfl
                clear hρ hV
                refine runs_val (v := .pointer (some ⟨g23, 2, none⟩)) (w' := w) ?_ ⟨Below.refl _ _, rfl⟩
                go_simp <;> (first | exact IntWalk.u64_in _ (by omega) | exact IntWalk.u32_in _ (by omega) | exact IntWalk.u16_in _ (by omega) | exact IntWalk.u8_in _ (by omega) | exact IntWalk.i64_in _ (by omega) | skip)
            case r24_3o19 =>
              intro vs w hb hV
              cases c1 with
              | false => (rw [if_neg (fun h => absurd (show false = true from h) Bool.false_ne_true)]) <;> exact rfl
              | true =>
                rw [if_pos (by first | kernel_rfl | rfl)]
                generalize hρ : rho _ _ _ vs = ρ
                have d175 : (vs 18) = .pointer (some ⟨g23, 2, none⟩) := hV 18 (by first | kernel_rfl | rfl)
                have e175 : ρ (.tmp 175) = vs 18 := by rw [← hρ]; kernel_rfl
                rw [d175] at e175; clear d175
                clear hρ hV
                have c0 := blk_cell ((HG.out w hb).2.1) 2
                refine runs_val (v := .int .u32 m') (w' := w) ?_ ⟨Below.refl _ _, rfl⟩
                go_simp
            case r24_3o20 =>
              intro vs w hb hV
              cases c1 with
              | false => (rw [if_neg (fun h => absurd (show false = true from h) Bool.false_ne_true)]) <;> exact rfl
              | true =>
                rw [if_pos (by first | kernel_rfl | rfl)]
                generalize hρ : rho _ _ _ vs = ρ
                have d174 : (vs 17) = .int .u32 m := hV 17 (by first | kernel_rfl | rfl)
                have e174 : ρ (.tmp 174) = vs 17 := by rw [← hρ]; kernel_rfl
                rw [d174] at e174; clear d174
                have d176 : (vs 19) = .int .u32 m' := hV 19 (by first | kernel_rfl | rfl)
                have e176 : ρ (.tmp 176) = vs 19 := by rw [← hρ]; kernel_rfl
                rw [d176] at e176; clear d176
                clear hρ hV
                have hh := HB2.out
                refine runs_val (v := .bool b2) (w' := w) ?_ ⟨Below.refl _ _, rfl⟩
                rw [← hh]
                go_simp
            case r24_3o21 =>
              intro vs w hb hV
              rw [if_pos (by first | kernel_rfl | rfl)]
              generalize hρ : rho _ _ _ vs = ρ
              have d172 : (vs 15) = .bool c1 := hV 15 (by first | kernel_rfl | rfl)
              have e172 : ρ (.tmp 172) = vs 15 := by rw [← hρ]; kernel_rfl
              rw [d172] at e172; clear d172
              have d177 : (vs 20) = (if c1 = true then .bool b2 else undef) := hV 20 (by first | kernel_rfl | rfl)
              have e177 : ρ (.tmp 177) = vs 20 := by rw [← hρ]; kernel_rfl
              rw [d177] at e177; clear d177
              have econ : ∀ v : Value, ρ (.const v) = v := fun v => by rw [← hρ]; rfl
              clear hρ hV
              have hh := HC2.out
              cases c1 <;> simp only [if_true, if_false, Bool.false_eq_true, Bool.true_and, Bool.false_and] at e177 hh <;> subst hh <;> refine runs_val (v := _) (w' := w) ?_ ⟨Below.refl _ _, rfl⟩ <;> go_simp
            case r24_3o22 =>
              intro vs w hb hV
              rw [if_pos (by first | kernel_rfl | rfl)]
              generalize hρ : rho _ _ _ vs = ρ
              have d178 : (vs 21) = .bool c2 := hV 21 (by first | kernel_rfl | rfl)
              have e178 : ρ (.tmp 178) = vs 21 := by rw [← hρ]; kernel_rfl
              clear hρ hV
              refine runs_val (v := vs 21) (w' := w) ?_ ⟨Below.refl _ _, d178⟩
              go_simp
            case r24_3o23 =>
              intro vs w hb hV
              cases c2 with
              | false => (rw [if_neg (fun h => absurd (show false = true from h) Bool.false_ne_true)]) <;> exact rfl
              | true =>
                rw [if_pos (by first | kernel_rfl | rfl)]
                generalize hρ : rho _ _ _ vs = ρ
                have e22 : ρ (.tmp 22) = .pointer (some ⟨g22, 0, none⟩) := by rw [← hρ]; kernel_rfl
                clear hρ hV
                refine runs_val (v := .pointer (some ⟨g22, 3, none⟩)) (w' := w) ?_ ⟨Below.refl _ _, rfl⟩
                go_simp <;> (first | exact IntWalk.u64_in _ (by omega) | exact IntWalk.u32_in _ (by omega) | exact IntWalk.u16_in _ (by omega) | exact IntWalk.u8_in _ (by omega) | exact IntWalk.i64_in _ (by omega) | skip)
            case r24_3o24 =>
              intro vs w hb hV
              cases c2 with
              | false => (rw [if_neg (fun h => absurd (show false = true from h) Bool.false_ne_true)]) <;> exact rfl
              | true =>
                rw [if_pos (by first | kernel_rfl | rfl)]
                generalize hρ : rho _ _ _ vs = ρ
                have d180 : (vs 23) = .pointer (some ⟨g22, 3, none⟩) := hV 23 (by first | kernel_rfl | rfl)
                have e180 : ρ (.tmp 180) = vs 23 := by rw [← hρ]; kernel_rfl
                rw [d180] at e180; clear d180
                clear hρ hV
                have c3 := blk_cell ((HG.out w hb).1) 3
                have c4 := blk_cell ((HG.out w hb).1) 4
                have c5' := blk_cell ((HG.out w hb).1) 5
                have c6' := blk_cell ((HG.out w hb).1) 6
                refine runs_val (v := .agg #[.int .u32 tk, .int .u32 hs, .slice Ap pn cp, .slice B6 cn e6]) (w' := w) ?_ ⟨Below.refl _ _, rfl⟩
                go_simp
            case r24_3o25 =>
              intro vs w hb hV
              cases c2 with
              | false => (rw [if_neg (fun h => absurd (show false = true from h) Bool.false_ne_true)]) <;> exact rfl
              | true =>
                rw [if_pos (by first | kernel_rfl | rfl)]
                generalize hρ : rho _ _ _ vs = ρ
                have e23 : ρ (.tmp 23) = .pointer (some ⟨g23, 0, none⟩) := by rw [← hρ]; kernel_rfl
                clear hρ hV
                refine runs_val (v := .pointer (some ⟨g23, 3, none⟩)) (w' := w) ?_ ⟨Below.refl _ _, rfl⟩
                go_simp <;> (first | exact IntWalk.u64_in _ (by omega) | exact IntWalk.u32_in _ (by omega) | exact IntWalk.u16_in _ (by omega) | exact IntWalk.u8_in _ (by omega) | exact IntWalk.i64_in _ (by omega) | skip)
            case r24_3o26 =>
              intro vs w hb hV
              cases c2 with
              | false => (rw [if_neg (fun h => absurd (show false = true from h) Bool.false_ne_true)]) <;> exact rfl
              | true =>
                rw [if_pos (by first | kernel_rfl | rfl)]
                generalize hρ : rho _ _ _ vs = ρ
                have d182 : (vs 25) = .pointer (some ⟨g23, 3, none⟩) := hV 25 (by first | kernel_rfl | rfl)
                have e182 : ρ (.tmp 182) = vs 25 := by rw [← hρ]; kernel_rfl
                rw [d182] at e182; clear d182
                clear hρ hV
                have c3 := blk_cell ((HG.out w hb).2.1) 3
                have c4 := blk_cell ((HG.out w hb).2.1) 4
                have c5' := blk_cell ((HG.out w hb).2.1) 5
                have c6' := blk_cell ((HG.out w hb).2.1) 6
                refine runs_val (v := .agg #[.int .u32 tk', .int .u32 hs', .slice Ap' pn' cp', .slice B8 cn' e8]) (w' := w) ?_ ⟨Below.refl _ _, rfl⟩
                go_simp
            case r24_3o27 =>
              intro vs w hb hV
              cases c2 with
              | false => (rw [if_neg (fun h => absurd (show false = true from h) Bool.false_ne_true)]) <;> exact rfl
              | true =>
                rw [if_pos (by first | kernel_rfl | rfl)]
                generalize hρ : rho _ _ _ vs = ρ
                have d181 : (vs 24) = .agg #[.int .u32 tk, .int .u32 hs, .slice Ap pn cp, .slice B6 cn e6] := hV 24 (by first | kernel_rfl | rfl)
                have e181 : ρ (.tmp 181) = vs 24 := by rw [← hρ]; kernel_rfl
                rw [d181] at e181; clear d181
                have d183 : (vs 26) = .agg #[.int .u32 tk', .int .u32 hs', .slice Ap' pn' cp', .slice B8 cn' e8] := hV 26 (by first | kernel_rfl | rfl)
                have e183 : ρ (.tmp 183) = vs 26 := by rw [← hρ]; kernel_rfl
                rw [d183] at e183; clear d183
                have ef23 : ρ (.func 23) = .func (.func 23) #[] #[] := by rw [← hρ]; rfl
                clear hρ hV
                refine runs_call (f := 23) (args := #[.agg #[.int .u32 tk, .int .u32 hs, .slice Ap pn cp, .slice B6 cn e6], .agg #[.int .u32 tk', .int .u32 hs', .slice Ap' pn' cp', .slice B8 cn' e8]]) (w' := w) ?_ ?_
                · go_simp
                · refine (rsame7G_any tk hs tk' hs' P P' (C.map toR) (C'.map toR) _ _ w (HG.out w hb).2.2.2.2.2.2.1 (HG.out w hb).2.2.2.2.2.2.2 HOK.out.1.2.2.2.2.2.1 HOK'.out.1.2.2.2.2.2.1 (by rw [List.length_map]; have := HOK.out.2.2; omega) (by rw [List.length_map]; have := HOK'.out.2.2; omega) γ HGM.out).mono ?_
                  rintro e w5 ⟨rfl, hb5⟩
                  exact ⟨_, rfl, hb5, rfl⟩
            case r24_3o28 =>
              intro vs w hb hV
              rw [if_pos (by first | kernel_rfl | rfl)]
              generalize hρ : rho _ _ _ vs = ρ
              have d179 : (vs 22) = .bool c2 := hV 22 (by first | kernel_rfl | rfl)
              have e179 : ρ (.tmp 179) = vs 22 := by rw [← hρ]; kernel_rfl
              rw [d179] at e179; clear d179
              have d184 : (vs 27) = (if c2 = true then .bool γ else undef) := hV 27 (by first | kernel_rfl | rfl)
              have e184 : ρ (.tmp 184) = vs 27 := by rw [← hρ]; kernel_rfl
              rw [d184] at e184; clear d184
              have econ : ∀ v : Value, ρ (.const v) = v := fun v => by rw [← hρ]; rfl
              clear hρ hV
              have hh := HC3.out
              cases c2 <;> simp only [if_true, if_false, Bool.false_eq_true, Bool.true_and, Bool.false_and] at e184 hh <;> subst hh <;> refine runs_val (v := _) (w' := w) ?_ ⟨Below.refl _ _, rfl⟩ <;> go_simp
            case r24_3o29 =>
              intro vs w hb hV
              rw [if_pos (by first | kernel_rfl | rfl)]
              generalize hρ : rho _ _ _ vs = ρ
              have d159 : (vs 2) = .bool β := hV 2 (by first | kernel_rfl | rfl)
              have e159 : ρ (.tmp 159) = vs 2 := by rw [← hρ]; kernel_rfl
              rw [d159] at e159; clear d159
              have d185 : (vs 28) = .bool β := hV 28 (by first | kernel_rfl | rfl)
              have e185 : ρ (.tmp 185) = vs 28 := by rw [← hρ]; kernel_rfl
              rw [d185] at e185; clear d185
              clear hρ hV
              refine runs_val (v := .bool true) (w' := w) ?_ ⟨Below.refl _ _, rfl⟩
              go_simp <;> (first | exact IntWalk.u64_in _ (by omega) | exact IntWalk.u32_in _ (by omega) | exact IntWalk.u16_in _ (by omega) | exact IntWalk.u8_in _ (by omega) | exact IntWalk.i64_in _ (by omega) | skip)
            case r24_3o30 =>
              intro vs w hb hV
              rw [if_pos (by first | kernel_rfl | rfl)]
              generalize hρ : rho _ _ _ vs = ρ
              have d186 : (vs 29) = .bool true := hV 29 (by first | kernel_rfl | rfl)
              have e186 : ρ (.tmp 186) = vs 29 := by rw [← hρ]; kernel_rfl
              clear hρ hV
              refine runs_val (v := vs 29) (w' := w) ?_ ⟨Below.refl _ _, d186⟩
              go_simp
            case r24_3e =>
              intro vs X9 hb9 hV
              have d157 : (vs 0) = .agg #[.int .u8 kd, .int .u32 tc, .int .u32 m, .int .u32 tk, .int .u32 hs, .slice Ap pn cp, .slice Ac cn cc] := hV 0 (Nat.le_of_ble_eq_true rfl)
              have d158 : (vs 1) = .agg #[.int .u8 kd', .int .u32 tc', .int .u32 m', .int .u32 tk', .int .u32 hs', .slice Ap' pn' cp', .slice Ac' cn' cc'] := hV 1 (Nat.le_of_ble_eq_true rfl)
              have d159 : (vs 2) = .bool β := hV 2 (Nat.le_of_ble_eq_true rfl)
              have d160 : (vs 3) = .pointer (some ⟨g22, 0, none⟩) := hV 3 (Nat.le_of_ble_eq_true rfl)
              have d161 : (vs 4) = .int .u8 kd := hV 4 (Nat.le_of_ble_eq_true rfl)
              have d162 : (vs 5) = .pointer (some ⟨g23, 0, none⟩) := hV 5 (Nat.le_of_ble_eq_true rfl)
              have d163 : (vs 6) = .int .u8 kd' := hV 6 (Nat.le_of_ble_eq_true rfl)
              have d164 : (vs 7) = .bool c0 := hV 7 (Nat.le_of_ble_eq_true rfl)
              have d165 : (vs 8) = .bool c0 := hV 8 (Nat.le_of_ble_eq_true rfl)
              have d171 : (vs 14) = .bool c1 := hV 14 (Nat.le_of_ble_eq_true rfl)
              have d172 : (vs 15) = .bool c1 := hV 15 (Nat.le_of_ble_eq_true rfl)
              have d178 : (vs 21) = .bool c2 := hV 21 (Nat.le_of_ble_eq_true rfl)
              have d179 : (vs 22) = .bool c2 := hV 22 (Nat.le_of_ble_eq_true rfl)
              have d185 : (vs 28) = .bool β := hV 28 (Nat.le_of_ble_eq_true rfl)
              have d186 : (vs 29) = .bool true := hV 29 (Nat.le_of_ble_eq_true rfl)
              have d10 : (vs 30) = .bool true := hV 30 (Nat.le_of_ble_eq_true rfl)
              clear hV
              simp only [putAll]
              rw [d157, d158, d159, d160, d161, d162, d163, d164, d165, d171, d172, d178, d179, d185, d186, d10]
              clear d157 d158 d159 d160 d161 d162 d163 d164 d165 d171 d172 d178 d179 d185 d186 d10
              generalize vs 9 = vN9
              generalize vs 10 = vN10
              generalize vs 11 = vN11
              generalize vs 12 = vN12
              generalize vs 13 = vN13
              generalize vs 16 = vN16
              generalize vs 17 = vN17
              generalize vs 18 = vN18
              generalize vs 19 = vN19
              generalize vs 20 = vN20
              generalize vs 23 = vN23
              generalize vs 24 = vN24
              generalize vs 25 = vN25
              generalize vs 26 = vN26
              generalize vs 27 = vN27
              clear vs
              simp only [Act.put, List.setIfInBounds_toArray, List.set_cons_zero, List.set_cons_succ]
              have HBF : Aside0 (Below B w00 X9) := ⟨HB5.out.1.trans (hb9.mono HB5.out.2)⟩
              clear hb9
              go_wp2_with fail
              go_ret
              exact ⟨rfl, HBF.out⟩
end Go.Proofs.Yticpjidcgaaldaa
