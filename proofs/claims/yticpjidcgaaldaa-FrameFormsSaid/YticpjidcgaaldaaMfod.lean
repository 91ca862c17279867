/- The parts of this proof, one behind the other: contracts of the functions, plain laws, the walk. -/
import Derived.Test.YticpjidcgaaldaaMfoc
import Derived.Deep.DeepCutAuto
namespace Go.Proofs.Yticpjidcgaaldaa
open Go.RowKit Go.Proofs.YticpjidcgaaldaaW.PrintWords Go.Proofs.YticpjidcgaaldaaW.PrintLast Go.Proofs.YticpjidcgaaldaaW.PrintMore
set_option linter.unusedVariables false
set_option linter.unusedSimpArgs false

theorem leN2 {l : List Int} (h : Bytes l) : 0 ≤ leN (l.take 2) ∧ leN (l.take 2) < 65536 := by
  have hb := h.take 2
  rw [leN_val hb]
  have h1 := valN_lt hb
  have h2 : (l.take 2).length ≤ 2 := List.length_take_le _ _
  have h3 : 256 ^ (l.take 2).length ≤ 256 ^ 2 := Nat.pow_le_pow_right (by decide) h2
  omega
theorem FrC.form {w : World} {ep sq nx bt : Int} {fi la al : Bool} {D : List Int} {v : Value} (h : FrC w ep sq nx bt fi la al D v) : ∃ A c, v = .agg #[.int .u16 ep, .int .u16 sq, .int .u16 nx, .int .u32 bt, .bool fi, .bool la, .bool al, .slice A D.length c] ∧ D.length ≤ c ∧ (Kd.int .u8).C w A D.length D := h
set_option maxRecDepth 100000 in
set_option maxHeartbeats 16000000 in
theorem rparse11_any (A : Option Addr) (n c : Nat) (p : List Int) (w00 : World) (hp : (Kd.int .u8).C w00 A n p) (hc : n ≤ c) (hn : n ≤ 1000) (hb : Bytes p) :
    Calls Try.prog 35 #[.slice A n c] w00 fun e w' => FParseR p w' e ∧ Below w00.heap.size w00 w' := by
  have HQL := Aside0.mk hp.1
  have HC := Aside0.mk hc
  have HN := Aside0.mk hn
  have HBQ := Aside0.mk hb
  have HPE := Aside0.mk (rparse_eq p hb)
  have HF : Aside0 (∀ z, Below w00.heap.size w00 z → (Kd.int .u8).C z A n p) := ⟨fun z hz => Kd.C_below hp hz⟩
  have H0 := Aside0.mk ((Hp.start w00).alloc (.cells #[.int .u16 0, .int .u16 0, .int .u16 0, .int .u32 0, .bool false, .bool false, .bool false, .slice none 0 0] 79))
  obtain ⟨B, hB⟩ : ∃ B, w00.heap.size = B := ⟨_, rfl⟩
  rw [hB] at HF H0
  rw [hB]
  have HB := Aside0.mk hB
  clear hp hc hn hb
  have hzd := zero_rframe
  have hn0 : (0 : Int) ≤ n := by omega
  have hn1 : (n : Int) ≤ 1000 := by have := HN.out; omega
  obtain ⟨β4, hβ4⟩ : ∃ b, decide ((n : Int) < 4) = b := ⟨_, rfl⟩
  have HB4 := Aside0.mk hβ4
  have HST := fun (H : Nat × Nat) => True.intro
  go_enter Try.func35, Try.ntmps35
  cases β4 with
  | true =>
    have h4 : (n : Int) < 4 := of_decide_eq_true HB4.out
    have HR : Aside0 (parseF p = badF 2) := ⟨by unfold parseF; rw [if_pos (by rw [HQL.out]; omega)]⟩
    go_wp2_with (first | (refine wpList_store_row rfl 79 (.tmp 2) (.tmp 9) rfl B #[.int .u16 0, .int .u16 0, .int .u16 0, .int .u32 0, .bool false, .bool false, .bool false, .slice none 0 0] rfl rfl 79 _ (H0.out.get (i := 0) rfl) (rframe_info _ _ _ _ _ _ _ _) rfl (by simp [Value.oneCell']) ?_))
    have H9 := Aside0.mk (H0.out.setRow (i := 0) rfl #[.int .u16 0, .int .u16 0, .int .u16 0, .int .u32 0, .bool false, .bool false, .bool false, .slice none 0 0])
    refine bodyPost_ret (results_ct rfl _ _ B _ #[.int .u16 0, .int .u16 0, .int .u16 0, .int .u32 0, .bool false, .bool false, .bool false, .slice none 0 0] (0, 0) _ rfl (H9.out.get (i := 0) rfl) Try.underlying79 rfl (rframe_info _ _ _ _ _ _ _ _)) rfl ?_
    exact ⟨FParseR.of HR.out (FrC_zero _), H9.out.bel⟩
  | false =>
    have h4 : ¬ (n : Int) < 4 := of_decide_eq_false HB4.out
    go_wp2_with fail
    obtain ⟨W1, hW1⟩ : ∃ W, w00.alloc (.cells #[.int .u16 0, .int .u16 0, .int .u16 0, .int .u32 0, .bool false, .bool false, .bool false, .slice none 0 0] 79) = W := ⟨_, rfl⟩
    rw [hW1] at H0
    rw [hW1]
    clear hW1
    obtain ⟨σ, hσ⟩ : ∃ s, sealedB p = s := ⟨_, rfl⟩
    refine (refopen_any σ A n c p W1 (HF.out _ H0.out.bel) HC.out HBQ.out (by omega) (by omega) (by rw [← hσ]; unfold sealedB; rw [HQL.out])).mono ?_
    rintro e w2 ⟨rfl, hb2⟩
    have H2 := Aside0.mk (H0.out.call hb2)
    clear hb2 H0
    have HS := Aside0.mk hσ
    clear hσ
    cases σ with
    | false =>
      have HR : Aside0 (parseF p = badF 5) := ⟨by unfold parseF; rw [if_neg (by rw [HQL.out]; omega), if_pos HS.out]⟩
      go_wp2_with (first | (refine wpList_store_row rfl 79 (.tmp 2) (.tmp 13) rfl B #[.int .u16 0, .int .u16 0, .int .u16 0, .int .u32 0, .bool false, .bool false, .bool false, .slice none 0 0] rfl rfl 79 _ (H2.out.get (i := 0) rfl) (rframe_info _ _ _ _ _ _ _ _) rfl (by simp [Value.oneCell']) ?_))
      have H9 := Aside0.mk (H2.out.setRow (i := 0) rfl #[.int .u16 0, .int .u16 0, .int .u16 0, .int .u32 0, .bool false, .bool false, .bool false, .slice none 0 0])
      refine bodyPost_ret (results_ct rfl _ _ B _ #[.int .u16 0, .int .u16 0, .int .u16 0, .int .u32 0, .bool false, .bool false, .bool false, .slice none 0 0] (0, 0) _ rfl (H9.out.get (i := 0) rfl) Try.underlying79 rfl (rframe_info _ _ _ _ _ _ _ _)) rfl ?_
      exact ⟨FParseR.of HR.out (FrC_zero _), H9.out.bel⟩
    | true =>
      obtain ⟨β17, hβ17⟩ : ∃ b, decide ((n : Int) < 17) = b := ⟨_, rfl⟩
      cases β17 with
      | true =>
        have h17 : (n : Int) < 17 := of_decide_eq_true hβ17
        have HR : Aside0 (parseF p = badF 2) := ⟨by rw [← HPE.out]; unfold rparseF; rw [if_neg (by rw [HQL.out]; omega), if_neg (by rw [HS.out]; decide), if_pos (by rw [HQL.out]; omega)]⟩
        go_wp2_with (first | (refine wpList_store_row rfl 79 (.tmp 2) (.tmp 17) rfl B #[.int .u16 0, .int .u16 0, .int .u16 0, .int .u32 0, .bool false, .bool false, .bool false, .slice none 0 0] rfl rfl 79 _ (H2.out.get (i := 0) rfl) (rframe_info _ _ _ _ _ _ _ _) rfl (by simp [Value.oneCell']) ?_))
        have H9 := Aside0.mk (H2.out.setRow (i := 0) rfl #[.int .u16 0, .int .u16 0, .int .u16 0, .int .u32 0, .bool false, .bool false, .bool false, .slice none 0 0])
        refine bodyPost_ret (results_ct rfl _ _ B _ #[.int .u16 0, .int .u16 0, .int .u16 0, .int .u32 0, .bool false, .bool false, .bool false, .slice none 0 0] (0, 0) _ rfl (H9.out.get (i := 0) rfl) Try.underlying79 rfl (rframe_info _ _ _ _ _ _ _ _)) rfl ?_
        exact ⟨FParseR.of HR.out (FrC_zero _), H9.out.bel⟩
      | false =>
        have h17 : ¬ (n : Int) < 17 := of_decide_eq_false hβ17
        have h17' : 17 ≤ p.length := by have := HQL.out; omega
        have HRP : Aside0 (parseF p = if rGood p = true then ⟨0, rEp p, rSq p, rNx p, rBt p, b1F (rFl p), b2F (rFl p), b4F (rFl p), rDa p⟩ else badF 2) := ⟨by rw [← HPE.out]; unfold rparseF; rw [if_neg (by rw [HQL.out]; omega), if_neg (by rw [HS.out]; decide), if_neg (by rw [HQL.out]; omega)]⟩
        obtain ⟨ad, hA, c11⟩ := int_at (HF.out _ H2.out.bel) 11 (by omega)
        have hb11 := HBQ.out _ (List.getElem_mem (show 11 < p.length by omega))
        have hfl : rFl p = p[11] := by unfold rFl; rw [List.getD_eq_getElem?_getD, List.getElem?_eq_getElem (by omega)]; rfl
        obtain ⟨fl, hfl2⟩ : ∃ fl, p[11] = fl := ⟨_, rfl⟩
        rw [hfl2] at c11 hb11 hfl
        simp only [Addr.add] at c11
        rw [if_neg (by decide)] at c11
        subst hA
        obtain ⟨ep, hep⟩ : ∃ x : Nat, rEp p = (x : Int) := ⟨(rEp p).toNat, by have := leN2 (HBQ.out.drop 1); unfold rEp; omega⟩
        obtain ⟨sq, hsq⟩ : ∃ x : Nat, rSq p = (x : Int) := ⟨(rSq p).toNat, by have := leN2 (HBQ.out.drop 3); unfold rSq; omega⟩
        obtain ⟨nx, hnx⟩ : ∃ x : Nat, rNx p = (x : Int) := ⟨(rNx p).toNat, by have := leN2 (HBQ.out.drop 5); unfold rNx; omega⟩
        obtain ⟨bt, hbt⟩ : ∃ x : Nat, rBt p = (x : Int) := ⟨(rBt p).toNat, by have := leN4 (HBQ.out.drop 7); unfold U32 at this; unfold rBt; omega⟩
        have HE : Aside0 (ep < 65536 ∧ sq < 65536 ∧ nx < 65536 ∧ bt < 4294967296) := ⟨by
          have q1 := leN2 (HBQ.out.drop 1)
          have q2 := leN2 (HBQ.out.drop 3)
          have q3 := leN2 (HBQ.out.drop 5)
          have q4 := leN4 (HBQ.out.drop 7)
          unfold rEp at hep
          unfold rSq at hsq
          unfold rNx at hnx
          unfold rBt at hbt
          unfold U32 at q4
          omega⟩
        obtain ⟨D, hD⟩ : ∃ D, rDa p = D := ⟨_, rfl⟩
        have HDB : Aside0 (Bytes D ∧ D.length ≤ 1000) := ⟨by rw [← hD]; unfold rDa; exact ⟨((HBQ.out.take _).drop 13).take 1000, List.length_take_le _ _⟩⟩
        have HGO : Aside0 (rGood p = (rightF sq D.length (b1F fl) (b2F fl) (b4F fl) && decide (sealL (rBody ep sq nx bt (b1F fl) (b2F fl) (b4F fl) D) = p))) := ⟨by unfold rGood; rw [hfl, hep, hsq, hnx, hbt, hD]; rfl⟩
        have HDD : Aside0 (((p.take (n - 4)).drop 13).take 1000 = D) := ⟨by rw [← hD]; unfold rDa; rw [HQL.out]⟩
        rw [hfl, hep, hsq, hnx, hbt, hD] at HRP
        have HV : Aside0 (leN ((p.drop 1).take 2) = ep ∧ leN ((p.drop 3).take 2) = sq ∧ leN ((p.drop 5).take 2) = nx ∧ leN ((p.drop 7).take 4) = bt) := ⟨hep, hsq, hnx, hbt⟩
        have h0fl := hb11.1
        have h1fl := hb11.2
        have HBF : Aside0 ((fl % 2 == 1) = b1F fl ∧ (fl / 2 % 2 == 1) = b2F fl ∧ (fl / 4 % 2 == 1) = b4F fl) := ⟨rfl, rfl, rfl⟩
        have d4n : wrap64 ((n : Int) - 4) = ((n - 4 : Nat) : Int) := by rw [IntWalk.wrap64_in _ (by omega)]; omega
        obtain ⟨m4, hm4⟩ : ∃ m, n - 4 = m := ⟨_, rfl⟩
        rw [hm4] at d4n HDD
        have HM4 : Aside0 (m4 + 4 = n ∧ 13 ≤ m4) := ⟨by omega, by omega⟩
        obtain ⟨A0, x1, x2⟩ := cut_lh (P := Try.prog) .u8 .i64 .i64 23 5 1 Try.underlying23 np_info (some ad) n c 1 3 (by omega) (by omega) HC.out
        have X0 : Aside0 (∀ W : World, (Instr.slice 23 (.slice (some ad) n c) (some (.int .i64 1)) (some (.int .i64 3)) none).run Try.prog W = .ok (.slice A0 2 (c - 1)) W) := ⟨fun W => x1 W⟩
        have Y0 : Aside0 (∀ z, Below B w00 z → (Kd.int .u8).C z A0 2 ((p.drop 1).take 2)) := ⟨fun z hz => by have := x2 z p (HF.out z hz); rw [List.drop_take] at this; exact this⟩
        clear x1 x2
        obtain ⟨A1, x1, x2⟩ := cut_lh (P := Try.prog) .u8 .i64 .i64 23 5 1 Try.underlying23 np_info (some ad) n c 3 5 (by omega) (by omega) HC.out
        have X1 : Aside0 (∀ W : World, (Instr.slice 23 (.slice (some ad) n c) (some (.int .i64 3)) (some (.int .i64 5)) none).run Try.prog W = .ok (.slice A1 2 (c - 3)) W) := ⟨fun W => x1 W⟩
        have Y1 : Aside0 (∀ z, Below B w00 z → (Kd.int .u8).C z A1 2 ((p.drop 3).take 2)) := ⟨fun z hz => by have := x2 z p (HF.out z hz); rw [List.drop_take] at this; exact this⟩
        clear x1 x2
        obtain ⟨A2, x1, x2⟩ := cut_lh (P := Try.prog) .u8 .i64 .i64 23 5 1 Try.underlying23 np_info (some ad) n c 5 7 (by omega) (by omega) HC.out
        have X2 : Aside0 (∀ W : World, (Instr.slice 23 (.slice (some ad) n c) (some (.int .i64 5)) (some (.int .i64 7)) none).run Try.prog W = .ok (.slice A2 2 (c - 5)) W) := ⟨fun W => x1 W⟩
        have Y2 : Aside0 (∀ z, Below B w00 z → (Kd.int .u8).C z A2 2 ((p.drop 5).take 2)) := ⟨fun z hz => by have := x2 z p (HF.out z hz); rw [List.drop_take] at this; exact this⟩
        clear x1 x2
        obtain ⟨A3, x1, x2⟩ := cut_lh (P := Try.prog) .u8 .i64 .i64 23 5 1 Try.underlying23 np_info (some ad) n c 7 11 (by omega) (by omega) HC.out
        have X3 : Aside0 (∀ W : World, (Instr.slice 23 (.slice (some ad) n c) (some (.int .i64 7)) (some (.int .i64 11)) none).run Try.prog W = .ok (.slice A3 4 (c - 7)) W) := ⟨fun W => x1 W⟩
        have Y3 : Aside0 (∀ z, Below B w00 z → (Kd.int .u8).C z A3 4 ((p.drop 7).take 4)) := ⟨fun z hz => by have := x2 z p (HF.out z hz); rw [List.drop_take] at this; exact this⟩
        clear x1 x2
        obtain ⟨A4, x1, x2⟩ := cut_lh (P := Try.prog) .u8 .i64 .i64 23 5 1 Try.underlying23 np_info (some ad) n c 13 m4 (by omega) (by omega) HC.out
        have X4 : Aside0 (∀ W : World, (Instr.slice 23 (.slice (some ad) n c) (some (.int .i64 13)) (some (.int .i64 m4)) none).run Try.prog W = .ok (.slice A4 (m4 - 13) (c - 13)) W) := ⟨fun W => x1 W⟩
        have Y4 : Aside0 (∀ z, Below B w00 z → (Kd.int .u8).C z A4 (m4 - 13) ((p.take m4).drop 13)) := ⟨fun z hz => x2 z p (HF.out z hz)⟩
        clear x1 x2
        have DW4 : Aside0 (IntKind.i64.wrap ((n : Int) - 4) = (m4 : Int)) := ⟨by rw [IntWalk.i64_in _ (by omega)]; omega⟩
        clear hep hsq hnx hbt hD hfl hfl2 hm4 h17'
        go_wp2_with fail
        clear c11
        have HW2 : Aside0 (B ≤ w2.heap.size ∧ Below B w00 w2) := ⟨H2.out.le, H2.out.bel⟩
        refine region_fills (W := w2) [(34, 35, 33)] #[.int .u16 0, .int .u16 0, .int .u16 0, .int .u32 0, .bool false, .bool false, .bool false, .slice none 0 0] 79
          [fun _ v => v = .slice (some ad) n c,
           fun (w : World) (v : Value) => v = .slice A0 2 (c - 1),
           fun _ v => v = .int .u64 ep,
           fun _ v => v = .int .u16 ep,
           fun _ v => v = .slice (some ad) n c,
           fun (w : World) (v : Value) => v = .slice A1 2 (c - 3),
           fun _ v => v = .int .u64 sq,
           fun _ v => v = .int .u16 sq,
           fun _ v => v = .slice (some ad) n c,
           fun (w : World) (v : Value) => v = .slice A2 2 (c - 5),
           fun _ v => v = .int .u64 nx,
           fun _ v => v = .int .u16 nx,
           fun _ v => v = .slice (some ad) n c,
           fun (w : World) (v : Value) => v = .slice A3 4 (c - 7),
           fun _ v => v = .int .u64 bt,
           fun _ v => v = .int .u32 bt,
           fun _ v => v = .int .u8 fl,
           fun _ v => v = .int .u8 (fl % 2),
           fun _ v => v = .bool (b1F fl),
           fun _ v => v = .int .u8 fl,
           fun _ v => v = .int .u8 (fl / 2),
           fun _ v => v = .int .u8 (fl / 2 % 2),
           fun _ v => v = .bool (b2F fl),
           fun _ v => v = .int .u8 fl,
           fun _ v => v = .int .u8 (fl / 4),
           fun _ v => v = .int .u8 (fl / 4 % 2),
           fun _ v => v = .bool (b4F fl),
           fun _ v => v = .slice (some ad) n c,
           fun _ v => v = .slice (some ad) n c,
           fun _ v => v = .int .i64 n,
           fun _ v => v = .int .i64 m4,
           fun (w : World) (v : Value) => v = .slice A4 (m4 - 13) (c - 13),
           fun (w : World) (v : Value) => (Kd.int .u8).R 5 w w2.heap.size (fun _ => True) v D,
           fun (w : World) (v : Value) => ∃ A c, v = .agg #[.int .u16 ep, .int .u16 sq, .int .u16 nx, .int .u32 bt, .bool (b1F fl), .bool (b2F fl), .bool (b4F fl), .slice A D.length c] ∧ (Kd.int .u8).R 5 w w2.heap.size (fun _ => True) (.slice A D.length c) D,
           fun _ _ => True,
           fun _ _ => True]
          (fun j =>  none)
          [(0, some 21), (1, some 22), (2, some 23), (3, some 24), (4, some 25), (5, some 26), (6, some 27), (7, some 28), (8, some 29), (9, some 30), (10, some 31), (11, some 32), (12, some 33), (13, some 34), (14, some 35), (15, some 36), (16, some 37), (17, some 38), (18, some 39), (19, some 40), (20, some 41), (21, some 42), (22, some 43), (23, some 44), (24, some 45), (25, some 46), (26, some 47), (27, some 48), (28, some 49), (29, some 50), (30, some 51), (31, some 52), (32, some 53), (33, some 54), (34, some 5), (35, none)]
          []
          (by kernel_rfl) (by kernel_rfl) (by kernel_rfl) (by kernel_rfl) (by kernel_rfl) ?y8_1g ?y8_1s ?y8_1v ?y8_1a ⟨?y8_1o0, ?y8_1o1, ?y8_1o2, ?y8_1o3, ?y8_1o4, ?y8_1o5, ?y8_1o6, ?y8_1o7, ?y8_1o8, ?y8_1o9, ?y8_1o10, ?y8_1o11, ?y8_1o12, ?y8_1o13, ?y8_1o14, ?y8_1o15, ?y8_1o16, ?y8_1o17, ?y8_1o18, ?y8_1o19, ?y8_1o20, ?y8_1o21, ?y8_1o22, ?y8_1o23, ?y8_1o24, ?y8_1o25, ?y8_1o26, ?y8_1o27, ?y8_1o28, ?y8_1o29, ?y8_1o30, ?y8_1o31, ?y8_1o32, ?y8_1o33, ?y8_1o34, ?y8_1o35, trivial⟩ ?y8_1e
        case y8_1g =>
          intro j hj; cases hj
        case y8_1s =>
          refine ⟨(fun F w w' v hf h => h), (fun F w w' v hf h => h), (fun F w w' v hf h => h), (fun F w w' v hf h => h), (fun F w w' v hf h => h), (fun F w w' v hf h => h), (fun F w w' v hf h => h), (fun F w w' v hf h => h), (fun F w w' v hf h => h), (fun F w w' v hf h => h), (fun F w w' v hf h => h), (fun F w w' v hf h => h), (fun F w w' v hf h => h), (fun F w w' v hf h => h), (fun F w w' v hf h => h), (fun F w w' v hf h => h), (fun F w w' v hf h => h), (fun F w w' v hf h => h), (fun F w w' v hf h => h), (fun F w w' v hf h => h), (fun F w w' v hf h => h), (fun F w w' v hf h => h), (fun F w w' v hf h => h), (fun F w w' v hf h => h), (fun F w w' v hf h => h), (fun F w w' v hf h => h), (fun F w w' v hf h => h), (fun F w w' v hf h => h), (fun F w w' v hf h => h), (fun F w w' v hf h => h), (fun F w w' v hf h => h), (fun F w w' v hf h => h), (fun F w w' v hf h => R_fills h rfl (by decide) hf), (fun F w w' v hf h => let ⟨A, c, h1, h2⟩ := h; ⟨A, c, h1, R_fills h2 rfl (by decide) hf⟩), (fun F w w' v hf h => h), (fun F w w' v hf h => h), trivial⟩
        case y8_1v =>
          intro f hf
          simp only [List.mem_cons, List.not_mem_nil, or_false] at hf
          rcases hf with rfl
          · exact ⟨fun _ _ => trivial, fun _ _ => trivial⟩
        case y8_1a =>
          intro f hf w v hv
          simp only [List.mem_cons, List.not_mem_nil, or_false] at hf
          rcases hf with rfl
          · replace hv : (fun (w : World) (v : Value) => ∃ A c, v = .agg #[.int .u16 ep, .int .u16 sq, .int .u16 nx, .int .u32 bt, .bool (b1F fl), .bool (b2F fl), .bool (b4F fl), .slice A D.length c] ∧ (Kd.int .u8).R 5 w w2.heap.size (fun _ => True) (.slice A D.length c) D) w v := hv; obtain ⟨A9, c9, q9, _⟩ := hv; exact ⟨_, q9⟩
        case y8_1o0 =>
          intro vs w hb hV
          rw [if_pos (by kernel_rfl)]
          generalize hρ : rho _ _ _ vs = ρ
          have e0 : ρ (.tmp 0) = .slice (some ad) n c := by rw [← hρ]; kernel_rfl
          clear hρ hV
          refine runs_val (v := .slice (some ad) n c) (w' := w) ?_ ⟨Below.refl _ _, rfl⟩
          go_simp <;> (first | exact IntWalk.u64_in _ (by omega) | exact IntWalk.u32_in _ (by omega) | exact IntWalk.u16_in _ (by omega) | exact IntWalk.u8_in _ (by omega) | exact IntWalk.i64_in _ (by omega) | skip)
        case y8_1o1 =>
          intro vs w hb hV
          rw [if_pos (by kernel_rfl)]
          generalize hρ : rho _ _ _ vs = ρ
          have d21 : (vs 0) = .slice (some ad) n c := hV 0 (by kernel_rfl)
          have e21 : ρ (.tmp 21) = vs 0 := by rw [← hρ]; kernel_rfl
          rw [d21] at e21; clear d21
          have econ : ∀ v : Value, ρ (.const v) = v := fun v => by rw [← hρ]; rfl
          clear hρ hV
          have r1 := X0.out w
          exact runs_slice 23 (.tmp 21) (some (.const (.int .i64 1))) (some (.const (.int .i64 3))) none rfl Try.underlying23 (by simp only [Option.map_some, Option.map_none, e21, econ]; exact r1) ⟨Below.refl _ _, rfl⟩
        case y8_1o2 =>
          intro vs w hb hV
          rw [if_pos (by kernel_rfl)]
          generalize hρ : rho _ _ _ vs = ρ
          have d22 : (fun (w : World) (v : Value) => v = .slice A0 2 (c - 1)) w (vs 1) := hV 1 (by kernel_rfl)
          have e22 : ρ (.tmp 22) = vs 1 := by rw [← hρ]; kernel_rfl
          have ef51 : ρ (.func 51) = .func (.func 51) #[] #[] := by rw [← hρ]; rfl
          clear hρ hV
          rw [d22] at e22
          refine runs_call (f := 51) (args := #[.slice A0 2 (c - 1)]) (w' := w) ?_ ?_
          · clear d22; go_simp
          · refine (value_any A0 2 (c - 1) ((p.drop 1).take 2) w (Y0.out w (HW2.out.2.trans (hb.mono HW2.out.1))) (by have := HC.out; have := HM4.out; omega) (by omega) ((HBQ.out.drop 1).take 2)).mono ?_
            rintro e w5 ⟨rfl, hb5⟩
            exact ⟨_, rfl, hb5.below, congrArg (Value.int .u64) HV.out.1⟩
        case y8_1o3 =>
          intro vs w hb hV
          rw [if_pos (by kernel_rfl)]
          generalize hρ : rho _ _ _ vs = ρ
          have d23 : (vs 2) = .int .u64 ep := hV 2 (by kernel_rfl)
          have e23 : ρ (.tmp 23) = vs 2 := by rw [← hρ]; kernel_rfl
          rw [d23] at e23; clear d23
          clear hρ hV
          have hx := HE.out
          refine runs_val (v := .int .u16 ep) (w' := w) ?_ ⟨Below.refl _ _, rfl⟩
          go_simp
          try exact IntWalk.u16_in _ (by omega)
        case y8_1o4 =>
          intro vs w hb hV
          rw [if_pos (by kernel_rfl)]
          generalize hρ : rho _ _ _ vs = ρ
          have e0 : ρ (.tmp 0) = .slice (some ad) n c := by rw [← hρ]; kernel_rfl
          clear hρ hV
          refine runs_val (v := .slice (some ad) n c) (w' := w) ?_ ⟨Below.refl _ _, rfl⟩
          go_simp <;> (first | exact IntWalk.u64_in _ (by omega) | exact IntWalk.u32_in _ (by omega) | exact IntWalk.u16_in _ (by omega) | exact IntWalk.u8_in _ (by omega) | exact IntWalk.i64_in _ (by omega) | skip)
        case y8_1o5 =>
          intro vs w hb hV
          rw [if_pos (by kernel_rfl)]
          generalize hρ : rho _ _ _ vs = ρ
          have d25 : (vs 4) = .slice (some ad) n c := hV 4 (by kernel_rfl)
          have e25 : ρ (.tmp 25) = vs 4 := by rw [← hρ]; kernel_rfl
          rw [d25] at e25; clear d25
          have econ : ∀ v : Value, ρ (.const v) = v := fun v => by rw [← hρ]; rfl
          clear hρ hV
          have r1 := X1.out w
          exact runs_slice 23 (.tmp 25) (some (.const (.int .i64 3))) (some (.const (.int .i64 5))) none rfl Try.underlying23 (by simp only [Option.map_some, Option.map_none, e25, econ]; exact r1) ⟨Below.refl _ _, rfl⟩
        case y8_1o6 =>
          intro vs w hb hV
          rw [if_pos (by kernel_rfl)]
          generalize hρ : rho _ _ _ vs = ρ
          have d26 : (fun (w : World) (v : Value) => v = .slice A1 2 (c - 3)) w (vs 5) := hV 5 (by kernel_rfl)
          have e26 : ρ (.tmp 26) = vs 5 := by rw [← hρ]; kernel_rfl
          have ef51 : ρ (.func 51) = .func (.func 51) #[] #[] := by rw [← hρ]; rfl
          clear hρ hV
          rw [d26] at e26
          refine runs_call (f := 51) (args := #[.slice A1 2 (c - 3)]) (w' := w) ?_ ?_
          · clear d26; go_simp
          · refine (value_any A1 2 (c - 3) ((p.drop 3).take 2) w (Y1.out w (HW2.out.2.trans (hb.mono HW2.out.1))) (by have := HC.out; have := HM4.out; omega) (by omega) ((HBQ.out.drop 3).take 2)).mono ?_
            rintro e w5 ⟨rfl, hb5⟩
            exact ⟨_, rfl, hb5.below, congrArg (Value.int .u64) HV.out.2.1⟩
        case y8_1o7 =>
          intro vs w hb hV
          rw [if_pos (by kernel_rfl)]
          generalize hρ : rho _ _ _ vs = ρ
          have d27 : (vs 6) = .int .u64 sq := hV 6 (by kernel_rfl)
          have e27 : ρ (.tmp 27) = vs 6 := by rw [← hρ]; kernel_rfl
          rw [d27] at e27; clear d27
          clear hρ hV
          have hx := HE.out
          refine runs_val (v := .int .u16 sq) (w' := w) ?_ ⟨Below.refl _ _, rfl⟩
          go_simp
          try exact IntWalk.u16_in _ (by omega)
        case y8_1o8 =>
          intro vs w hb hV
          rw [if_pos (by kernel_rfl)]
          generalize hρ : rho _ _ _ vs = ρ
          have e0 : ρ (.tmp 0) = .slice (some ad) n c := by rw [← hρ]; kernel_rfl
          clear hρ hV
          refine runs_val (v := .slice (some ad) n c) (w' := w) ?_ ⟨Below.refl _ _, rfl⟩
          go_simp <;> (first | exact IntWalk.u64_in _ (by omega) | exact IntWalk.u32_in _ (by omega) | exact IntWalk.u16_in _ (by omega) | exact IntWalk.u8_in _ (by omega) | exact IntWalk.i64_in _ (by omega) | skip)
        case y8_1o9 =>
          intro vs w hb hV
          rw [if_pos (by kernel_rfl)]
          generalize hρ : rho _ _ _ vs = ρ
          have d29 : (vs 8) = .slice (some ad) n c := hV 8 (by kernel_rfl)
          have e29 : ρ (.tmp 29) = vs 8 := by rw [← hρ]; kernel_rfl
          rw [d29] at e29; clear d29
          have econ : ∀ v : Value, ρ (.const v) = v := fun v => by rw [← hρ]; rfl
          clear hρ hV
          have r1 := X2.out w
          exact runs_slice 23 (.tmp 29) (some (.const (.int .i64 5))) (some (.const (.int .i64 7))) none rfl Try.underlying23 (by simp only [Option.map_some, Option.map_none, e29, econ]; exact r1) ⟨Below.refl _ _, rfl⟩
        case y8_1o10 =>
          intro vs w hb hV
          rw [if_pos (by kernel_rfl)]
          generalize hρ : rho _ _ _ vs = ρ
          have d30 : (fun (w : World) (v : Value) => v = .slice A2 2 (c - 5)) w (vs 9) := hV 9 (by kernel_rfl)
          have e30 : ρ (.tmp 30) = vs 9 := by rw [← hρ]; kernel_rfl
          have ef51 : ρ (.func 51) = .func (.func 51) #[] #[] := by rw [← hρ]; rfl
          clear hρ hV
          rw [d30] at e30
          refine runs_call (f := 51) (args := #[.slice A2 2 (c - 5)]) (w' := w) ?_ ?_
          · clear d30; go_simp
          · refine (value_any A2 2 (c - 5) ((p.drop 5).take 2) w (Y2.out w (HW2.out.2.trans (hb.mono HW2.out.1))) (by have := HC.out; have := HM4.out; omega) (by omega) ((HBQ.out.drop 5).take 2)).mono ?_
            rintro e w5 ⟨rfl, hb5⟩
            exact ⟨_, rfl, hb5.below, congrArg (Value.int .u64) HV.out.2.2.1⟩
        case y8_1o11 =>
          intro vs w hb hV
          rw [if_pos (by kernel_rfl)]
          generalize hρ : rho _ _ _ vs = ρ
          have d31 : (vs 10) = .int .u64 nx := hV 10 (by kernel_rfl)
          have e31 : ρ (.tmp 31) = vs 10 := by rw [← hρ]; kernel_rfl
          rw [d31] at e31; clear d31
          clear hρ hV
          have hx := HE.out
          refine runs_val (v := .int .u16 nx) (w' := w) ?_ ⟨Below.refl _ _, rfl⟩
          go_simp
          try exact IntWalk.u16_in _ (by omega)
        case y8_1o12 =>
          intro vs w hb hV
          rw [if_pos (by kernel_rfl)]
          generalize hρ : rho _ _ _ vs = ρ
          have e0 : ρ (.tmp 0) = .slice (some ad) n c := by rw [← hρ]; kernel_rfl
          clear hρ hV
          refine runs_val (v := .slice (some ad) n c) (w' := w) ?_ ⟨Below.refl _ _, rfl⟩
          go_simp <;> (first | exact IntWalk.u64_in _ (by omega) | exact IntWalk.u32_in _ (by omega) | exact IntWalk.u16_in _ (by omega) | exact IntWalk.u8_in _ (by omega) | exact IntWalk.i64_in _ (by omega) | skip)
        case y8_1o13 =>
          intro vs w hb hV
          rw [if_pos (by kernel_rfl)]
          generalize hρ : rho _ _ _ vs = ρ
          have d33 : (vs 12) = .slice (some ad) n c := hV 12 (by kernel_rfl)
          have e33 : ρ (.tmp 33) = vs 12 := by rw [← hρ]; kernel_rfl
          rw [d33] at e33; clear d33
          have econ : ∀ v : Value, ρ (.const v) = v := fun v => by rw [← hρ]; rfl
          clear hρ hV
          have r1 := X3.out w
          exact runs_slice 23 (.tmp 33) (some (.const (.int .i64 7))) (some (.const (.int .i64 11))) none rfl Try.underlying23 (by simp only [Option.map_some, Option.map_none, e33, econ]; exact r1) ⟨Below.refl _ _, rfl⟩
        case y8_1o14 =>
          intro vs w hb hV
          rw [if_pos (by kernel_rfl)]
          generalize hρ : rho _ _ _ vs = ρ
          have d34 : (fun (w : World) (v : Value) => v = .slice A3 4 (c - 7)) w (vs 13) := hV 13 (by kernel_rfl)
          have e34 : ρ (.tmp 34) = vs 13 := by rw [← hρ]; kernel_rfl
          have ef51 : ρ (.func 51) = .func (.func 51) #[] #[] := by rw [← hρ]; rfl
          clear hρ hV
          rw [d34] at e34
          refine runs_call (f := 51) (args := #[.slice A3 4 (c - 7)]) (w' := w) ?_ ?_
          · clear d34; go_simp
          · refine (value_any A3 4 (c - 7) ((p.drop 7).take 4) w (Y3.out w (HW2.out.2.trans (hb.mono HW2.out.1))) (by have := HC.out; have := HM4.out; omega) (by omega) ((HBQ.out.drop 7).take 4)).mono ?_
            rintro e w5 ⟨rfl, hb5⟩
            exact ⟨_, rfl, hb5.below, congrArg (Value.int .u64) HV.out.2.2.2⟩
        case y8_1o15 =>
          intro vs w hb hV
          rw [if_pos (by kernel_rfl)]
          generalize hρ : rho _ _ _ vs = ρ
          have d35 : (vs 14) = .int .u64 bt := hV 14 (by kernel_rfl)
          have e35 : ρ (.tmp 35) = vs 14 := by rw [← hρ]; kernel_rfl
          rw [d35] at e35; clear d35
          clear hρ hV
          have hx := HE.out
          refine runs_val (v := .int .u32 bt) (w' := w) ?_ ⟨Below.refl _ _, rfl⟩
          go_simp
          try exact IntWalk.u32_in _ (by omega)
        case y8_1o16 =>
          intro vs w hb hV
          rw [if_pos (by kernel_rfl)]
          generalize hρ : rho _ _ _ vs = ρ
          have e4 : ρ (.tmp 4) = .int .u8 fl := by rw [← hρ]; kernel_rfl
          clear hρ hV
          refine runs_val (v := .int .u8 fl) (w' := w) ?_ ⟨Below.refl _ _, rfl⟩
          go_simp <;> (first | exact IntWalk.u64_in _ (by omega) | exact IntWalk.u32_in _ (by omega) | exact IntWalk.u16_in _ (by omega) | exact IntWalk.u8_in _ (by omega) | exact IntWalk.i64_in _ (by omega) | skip)
        case y8_1o17 =>
          intro vs w hb hV
          rw [if_pos (by kernel_rfl)]
          generalize hρ : rho _ _ _ vs = ρ
          have d37 : (vs 16) = .int .u8 fl := hV 16 (by kernel_rfl)
          have e37 : ρ (.tmp 37) = vs 16 := by rw [← hρ]; kernel_rfl
          rw [d37] at e37; clear d37
          have econ : ∀ v : Value, ρ (.const v) = v := fun v => by rw [← hρ]; rfl
          clear hρ hV
          refine runs_val (v := .int .u8 (fl % 2)) (w' := w) ?_ ⟨Below.refl _ _, rfl⟩
          go_simp
          try exact Int.tmod_eq_emod_of_nonneg (by omega)
        case y8_1o18 =>
          intro vs w hb hV
          rw [if_pos (by kernel_rfl)]
          generalize hρ : rho _ _ _ vs = ρ
          have d38 : (vs 17) = .int .u8 (fl % 2) := hV 17 (by kernel_rfl)
          have e38 : ρ (.tmp 38) = vs 17 := by rw [← hρ]; kernel_rfl
          rw [d38] at e38; clear d38
          have econ : ∀ v : Value, ρ (.const v) = v := fun v => by rw [← hρ]; rfl
          clear hρ hV
          have q0 := HBF.out
          refine runs_val (v := .bool (b1F fl)) (w' := w) ?_ ⟨Below.refl _ _, rfl⟩
          rw [← q0.1]
          clear q0
          go_simp
        case y8_1o19 =>
          intro vs w hb hV
          rw [if_pos (by kernel_rfl)]
          generalize hρ : rho _ _ _ vs = ρ
          have e4 : ρ (.tmp 4) = .int .u8 fl := by rw [← hρ]; kernel_rfl
          clear hρ hV
          refine runs_val (v := .int .u8 fl) (w' := w) ?_ ⟨Below.refl _ _, rfl⟩
          go_simp <;> (first | exact IntWalk.u64_in _ (by omega) | exact IntWalk.u32_in _ (by omega) | exact IntWalk.u16_in _ (by omega) | exact IntWalk.u8_in _ (by omega) | exact IntWalk.i64_in _ (by omega) | skip)
        case y8_1o20 =>
          intro vs w hb hV
          rw [if_pos (by kernel_rfl)]
          generalize hρ : rho _ _ _ vs = ρ
          have d40 : (vs 19) = .int .u8 fl := hV 19 (by kernel_rfl)
          have e40 : ρ (.tmp 40) = vs 19 := by rw [← hρ]; kernel_rfl
          rw [d40] at e40; clear d40
          have econ : ∀ v : Value, ρ (.const v) = v := fun v => by rw [← hρ]; rfl
          clear hρ hV
          refine runs_val (v := .int .u8 (fl / 2)) (w' := w) ?_ ⟨Below.refl _ _, rfl⟩
          go_simp
          try (rw [Int.tdiv_eq_ediv_of_nonneg h0fl])
          try exact IntWalk.u8_in _ (by omega)
        case y8_1o21 =>
          intro vs w hb hV
          rw [if_pos (by kernel_rfl)]
          generalize hρ : rho _ _ _ vs = ρ
          have d41 : (vs 20) = .int .u8 (fl / 2) := hV 20 (by kernel_rfl)
          have e41 : ρ (.tmp 41) = vs 20 := by rw [← hρ]; kernel_rfl
          rw [d41] at e41; clear d41
          have econ : ∀ v : Value, ρ (.const v) = v := fun v => by rw [← hρ]; rfl
          clear hρ hV
          refine runs_val (v := .int .u8 (fl / 2 % 2)) (w' := w) ?_ ⟨Below.refl _ _, rfl⟩
          go_simp
          try exact Int.tmod_eq_emod_of_nonneg (by omega)
        case y8_1o22 =>
          intro vs w hb hV
          rw [if_pos (by kernel_rfl)]
          generalize hρ : rho _ _ _ vs = ρ
          have d42 : (vs 21) = .int .u8 (fl / 2 % 2) := hV 21 (by kernel_rfl)
          have e42 : ρ (.tmp 42) = vs 21 := by rw [← hρ]; kernel_rfl
          rw [d42] at e42; clear d42
          have econ : ∀ v : Value, ρ (.const v) = v := fun v => by rw [← hρ]; rfl
          clear hρ hV
          have q0 := HBF.out
          refine runs_val (v := .bool (b2F fl)) (w' := w) ?_ ⟨Below.refl _ _, rfl⟩
          rw [← q0.2.1]
          clear q0
          go_simp
        case y8_1o23 =>
          intro vs w hb hV
          rw [if_pos (by kernel_rfl)]
          generalize hρ : rho _ _ _ vs = ρ
          have e4 : ρ (.tmp 4) = .int .u8 fl := by rw [← hρ]; kernel_rfl
          clear hρ hV
          refine runs_val (v := .int .u8 fl) (w' := w) ?_ ⟨Below.refl _ _, rfl⟩
          go_simp <;> (first | exact IntWalk.u64_in _ (by omega) | exact IntWalk.u32_in _ (by omega) | exact IntWalk.u16_in _ (by omega) | exact IntWalk.u8_in _ (by omega) | exact IntWalk.i64_in _ (by omega) | skip)
        case y8_1o24 =>
          intro vs w hb hV
          rw [if_pos (by kernel_rfl)]
          generalize hρ : rho _ _ _ vs = ρ
          have d44 : (vs 23) = .int .u8 fl := hV 23 (by kernel_rfl)
          have e44 : ρ (.tmp 44) = vs 23 := by rw [← hρ]; kernel_rfl
          rw [d44] at e44; clear d44
          have econ : ∀ v : Value, ρ (.const v) = v := fun v => by rw [← hρ]; rfl
          clear hρ hV
          refine runs_val (v := .int .u8 (fl / 4)) (w' := w) ?_ ⟨Below.refl _ _, rfl⟩
          go_simp
          try (rw [Int.tdiv_eq_ediv_of_nonneg h0fl])
          try exact IntWalk.u8_in _ (by omega)
        case y8_1o25 =>
          intro vs w hb hV
          rw [if_pos (by kernel_rfl)]
          generalize hρ : rho _ _ _ vs = ρ
          have d45 : (vs 24) = .int .u8 (fl / 4) := hV 24 (by kernel_rfl)
          have e45 : ρ (.tmp 45) = vs 24 := by rw [← hρ]; kernel_rfl
          rw [d45] at e45; clear d45
          have econ : ∀ v : Value, ρ (.const v) = v := fun v => by rw [← hρ]; rfl
          clear hρ hV
          refine runs_val (v := .int .u8 (fl / 4 % 2)) (w' := w) ?_ ⟨Below.refl _ _, rfl⟩
          go_simp
          try exact Int.tmod_eq_emod_of_nonneg (by omega)
        case y8_1o26 =>
          intro vs w hb hV
          rw [if_pos (by kernel_rfl)]
          generalize hρ : rho _ _ _ vs = ρ
          have d46 : (vs 25) = .int .u8 (fl / 4 % 2) := hV 25 (by kernel_rfl)
          have e46 : ρ (.tmp 46) = vs 25 := by rw [← hρ]; kernel_rfl
          rw [d46] at e46; clear d46
          have econ : ∀ v : Value, ρ (.const v) = v := fun v => by rw [← hρ]; rfl
          clear hρ hV
          have q0 := HBF.out
          refine runs_val (v := .bool (b4F fl)) (w' := w) ?_ ⟨Below.refl _ _, rfl⟩
          rw [← q0.2.2]
          clear q0
          go_simp
        case y8_1o27 =>
          intro vs w hb hV
          rw [if_pos (by kernel_rfl)]
          generalize hρ : rho _ _ _ vs = ρ
          have e0 : ρ (.tmp 0) = .slice (some ad) n c := by rw [← hρ]; kernel_rfl
          clear hρ hV
          refine runs_val (v := .slice (some ad) n c) (w' := w) ?_ ⟨Below.refl _ _, rfl⟩
          go_simp <;> (first | exact IntWalk.u64_in _ (by omega) | exact IntWalk.u32_in _ (by omega) | exact IntWalk.u16_in _ (by omega) | exact IntWalk.u8_in _ (by omega) | exact IntWalk.i64_in _ (by omega) | skip)
        case y8_1o28 =>
          intro vs w hb hV
          rw [if_pos (by kernel_rfl)]
          generalize hρ : rho _ _ _ vs = ρ
          have e0 : ρ (.tmp 0) = .slice (some ad) n c := by rw [← hρ]; kernel_rfl
          clear hρ hV
          refine runs_val (v := .slice (some ad) n c) (w' := w) ?_ ⟨Below.refl _ _, rfl⟩
          go_simp <;> (first | exact IntWalk.u64_in _ (by omega) | exact IntWalk.u32_in _ (by omega) | exact IntWalk.u16_in _ (by omega) | exact IntWalk.u8_in _ (by omega) | exact IntWalk.i64_in _ (by omega) | skip)
        case y8_1o29 =>
          intro vs w hb hV
          rw [if_pos (by kernel_rfl)]
          generalize hρ : rho _ _ _ vs = ρ
          have d49 : (vs 28) = .slice (some ad) n c := hV 28 (by kernel_rfl)
          have e49 : ρ (.tmp 49) = vs 28 := by rw [← hρ]; kernel_rfl
          rw [d49] at e49; clear d49
          clear hρ hV
          refine runs_val (v := .int .i64 n) (w' := w) ?_ ⟨Below.refl _ _, rfl⟩
          go_simp <;> (first | exact IntWalk.u64_in _ (by omega) | exact IntWalk.u32_in _ (by omega) | exact IntWalk.u16_in _ (by omega) | exact IntWalk.u8_in _ (by omega) | exact IntWalk.i64_in _ (by omega) | skip)
        case y8_1o30 =>
          intro vs w hb hV
          rw [if_pos (by kernel_rfl)]
          generalize hρ : rho _ _ _ vs = ρ
          have d50 : (vs 29) = .int .i64 n := hV 29 (by kernel_rfl)
          have e50 : ρ (.tmp 50) = vs 29 := by rw [← hρ]; kernel_rfl
          rw [d50] at e50; clear d50
          have econ : ∀ v : Value, ρ (.const v) = v := fun v => by rw [← hρ]; rfl
          clear hρ hV
          have ix := DW4.out
          refine runs_val (v := .int .i64 m4) (w' := w) ?_ ⟨Below.refl _ _, rfl⟩
          rw [← ix]
          clear ix
          go_simp
        case y8_1o31 =>
          intro vs w hb hV
          rw [if_pos (by kernel_rfl)]
          generalize hρ : rho _ _ _ vs = ρ
          have d48 : (vs 27) = .slice (some ad) n c := hV 27 (by kernel_rfl)
          have e48 : ρ (.tmp 48) = vs 27 := by rw [← hρ]; kernel_rfl
          rw [d48] at e48; clear d48
          have d51 : (vs 30) = .int .i64 m4 := hV 30 (by kernel_rfl)
          have e51 : ρ (.tmp 51) = vs 30 := by rw [← hρ]; kernel_rfl
          rw [d51] at e51; clear d51
          have econ : ∀ v : Value, ρ (.const v) = v := fun v => by rw [← hρ]; rfl
          clear hρ hV
          have r1 := X4.out w
          exact runs_slice 23 (.tmp 48) (some (.const (.int .i64 13))) (some (.tmp 51)) none rfl Try.underlying23 (by simp only [Option.map_some, Option.map_none, e48, e51, econ]; exact r1) ⟨Below.refl _ _, rfl⟩
        case y8_1o32 =>
          intro vs w hb hV
          rw [if_pos (by kernel_rfl)]
          generalize hρ : rho _ _ _ vs = ρ
          have d52 : (fun (w : World) (v : Value) => v = .slice A4 (m4 - 13) (c - 13)) w (vs 31) := hV 31 (by kernel_rfl)
          have e52 : ρ (.tmp 52) = vs 31 := by rw [← hρ]; kernel_rfl
          have ef12 : ρ (.func 12) = .func (.func 12) #[] #[] := by rw [← hρ]; rfl
          have econ : ∀ v : Value, ρ (.const v) = v := fun v => by rw [← hρ]; rfl
          clear hρ hV
          rw [d52] at e52
          refine runs_call (f := 12) (args := #[.slice A4 (m4 - 13) (c - 13), .int .i64 1000]) (w' := w) ?_ ?_
          · clear d52; go_simp
          · refine (cut_any A4 (m4 - 13) (c - 13) ((p.take m4).drop 13) 1000 w (Y4.out w (HW2.out.2.trans (hb.mono HW2.out.1))) (by have := HC.out; have := HM4.out; omega) (by omega)).mono ?_
            rintro e w5 ⟨v, rfl, hv, hb5⟩
            rw [show (1000 : Int).toNat = 1000 from rfl, HDD.out] at hv
            exact ⟨_, rfl, hb5, Kd.R_mono (Kd.R_lower hv hb.size) (fun _ _ => trivial)⟩
        case y8_1o33 =>
          intro vs w hb hV
          rw [if_pos (by kernel_rfl)]
          generalize hρ : rho _ _ _ vs = ρ
          have d24 : (vs 3) = .int .u16 ep := hV 3 (by kernel_rfl)
          have e24 : ρ (.tmp 24) = vs 3 := by rw [← hρ]; kernel_rfl
          rw [d24] at e24; clear d24
          have d28 : (vs 7) = .int .u16 sq := hV 7 (by kernel_rfl)
          have e28 : ρ (.tmp 28) = vs 7 := by rw [← hρ]; kernel_rfl
          rw [d28] at e28; clear d28
          have d32 : (vs 11) = .int .u16 nx := hV 11 (by kernel_rfl)
          have e32 : ρ (.tmp 32) = vs 11 := by rw [← hρ]; kernel_rfl
          rw [d32] at e32; clear d32
          have d36 : (vs 15) = .int .u32 bt := hV 15 (by kernel_rfl)
          have e36 : ρ (.tmp 36) = vs 15 := by rw [← hρ]; kernel_rfl
          rw [d36] at e36; clear d36
          have d39 : (vs 18) = .bool (b1F fl) := hV 18 (by kernel_rfl)
          have e39 : ρ (.tmp 39) = vs 18 := by rw [← hρ]; kernel_rfl
          rw [d39] at e39; clear d39
          have d43 : (vs 22) = .bool (b2F fl) := hV 22 (by kernel_rfl)
          have e43 : ρ (.tmp 43) = vs 22 := by rw [← hρ]; kernel_rfl
          rw [d43] at e43; clear d43
          have d47 : (vs 26) = .bool (b4F fl) := hV 26 (by kernel_rfl)
          have e47 : ρ (.tmp 47) = vs 26 := by rw [← hρ]; kernel_rfl
          rw [d47] at e47; clear d47
          have d53 : (fun (w : World) (v : Value) => (Kd.int .u8).R 5 w w2.heap.size (fun _ => True) v D) w (vs 32) := hV 32 (by kernel_rfl)
          have e53 : ρ (.tmp 53) = vs 32 := by rw [← hρ]; kernel_rfl
          clear hρ hV
          obtain ⟨A9, c9, q9, _, _⟩ := Kd.R_reads d53
          rw [q9] at e53 d53
          have hzd := zero_rframe w
          refine runs_val (v := .agg #[.int .u16 ep, .int .u16 sq, .int .u16 nx, .int .u32 bt, .bool (b1F fl), .bool (b2F fl), .bool (b4F fl), .slice A9 D.length c9]) (w' := w) ?_ ⟨Below.refl _ _, A9, c9, rfl, d53⟩
          clear d53 q9
          go_simp
        case y8_1o34 =>
          intro vs w
          generalize hρ : rho _ _ _ vs = ρ
          clear hρ
          refine runs_val (v := .pointer (some ⟨w.heap.size, 0, none⟩)) (w' := w.alloc (.cells #[.int .u16 0, .int .u16 0, .int .u16 0, .int .u32 0, .bool false, .bool false, .bool false, .slice none 0 0] 79)) ?_ ⟨rfl, rfl⟩
          go_simp
        case y8_1o35 =>
          intro vs w g cur cs hb hV hg0 hcs hcur hcsz
          replace hg0 : vs 34 = .pointer (some ⟨g, 0, none⟩) := hg0
          replace hcs : vs 33 = .agg cs := hcs
          generalize hρ : rho _ _ _ vs = ρ
          have d5 : (fun (w : World) (v : Value) => True) w (vs 34) := hV 34 (by kernel_rfl)
          have e5 : ρ (.tmp 5) = vs 34 := by rw [← hρ]; kernel_rfl
          have d54 : (fun (w : World) (v : Value) => ∃ A c, v = .agg #[.int .u16 ep, .int .u16 sq, .int .u16 nx, .int .u32 bt, .bool (b1F fl), .bool (b2F fl), .bool (b4F fl), .slice A D.length c] ∧ (Kd.int .u8).R 5 w w2.heap.size (fun _ => True) (.slice A D.length c) D) w (vs 33) := hV 33 (by kernel_rfl)
          have e54 : ρ (.tmp 54) = vs 33 := by rw [← hρ]; kernel_rfl
          clear hρ hV
          rw [hg0] at e5
          rw [hcs] at e54
          exact runs_store_row 79 (.tmp 5) (.tmp 54) rfl g _ e5 e54 79 cur hcur (by obtain ⟨A9, c9, q9, _⟩ := d54; rw [hcs] at q9; injection q9 with q9; rw [q9]; exact rframe_info _ _ _ _ _ _ _ _) (by obtain ⟨A9, c9, q9, _⟩ := d54; rw [hcs] at q9; injection q9 with q9; rw [q9, hcsz]; rfl) (by obtain ⟨A9, c9, q9, _⟩ := d54; rw [hcs] at q9; injection q9 with q9; rw [q9]; simp [Value.oneCell']) rfl
        case y8_1e =>
          intro vs W3 hb3 hV hFill hNe
          obtain ⟨g5, cs5, hgP5, hgB5, hgV5, hgF5⟩ := hFill (34, 35, 33) (by simp)
          replace hgP5 : vs 34 = .pointer (some ⟨g5, 0, none⟩) := hgP5
          replace hgV5 : vs 33 = .agg cs5 := hgV5
          have d21 : (vs 0) = .slice (some ad) n c := hV 0 (Nat.le_of_ble_eq_true rfl)
          have d22 : (fun (w : World) (v : Value) => v = .slice A0 2 (c - 1)) W3 (vs 1) := hV 1 (Nat.le_of_ble_eq_true rfl)
          have d23 : (vs 2) = .int .u64 ep := hV 2 (Nat.le_of_ble_eq_true rfl)
          have d24 : (vs 3) = .int .u16 ep := hV 3 (Nat.le_of_ble_eq_true rfl)
          have d25 : (vs 4) = .slice (some ad) n c := hV 4 (Nat.le_of_ble_eq_true rfl)
          have d26 : (fun (w : World) (v : Value) => v = .slice A1 2 (c - 3)) W3 (vs 5) := hV 5 (Nat.le_of_ble_eq_true rfl)
          have d27 : (vs 6) = .int .u64 sq := hV 6 (Nat.le_of_ble_eq_true rfl)
          have d28 : (vs 7) = .int .u16 sq := hV 7 (Nat.le_of_ble_eq_true rfl)
          have d29 : (vs 8) = .slice (some ad) n c := hV 8 (Nat.le_of_ble_eq_true rfl)
          have d30 : (fun (w : World) (v : Value) => v = .slice A2 2 (c - 5)) W3 (vs 9) := hV 9 (Nat.le_of_ble_eq_true rfl)
          have d31 : (vs 10) = .int .u64 nx := hV 10 (Nat.le_of_ble_eq_true rfl)
          have d32 : (vs 11) = .int .u16 nx := hV 11 (Nat.le_of_ble_eq_true rfl)
          have d33 : (vs 12) = .slice (some ad) n c := hV 12 (Nat.le_of_ble_eq_true rfl)
          have d34 : (fun (w : World) (v : Value) => v = .slice A3 4 (c - 7)) W3 (vs 13) := hV 13 (Nat.le_of_ble_eq_true rfl)
          have d35 : (vs 14) = .int .u64 bt := hV 14 (Nat.le_of_ble_eq_true rfl)
          have d36 : (vs 15) = .int .u32 bt := hV 15 (Nat.le_of_ble_eq_true rfl)
          have d37 : (vs 16) = .int .u8 fl := hV 16 (Nat.le_of_ble_eq_true rfl)
          have d38 : (vs 17) = .int .u8 (fl % 2) := hV 17 (Nat.le_of_ble_eq_true rfl)
          have d39 : (vs 18) = .bool (b1F fl) := hV 18 (Nat.le_of_ble_eq_true rfl)
          have d40 : (vs 19) = .int .u8 fl := hV 19 (Nat.le_of_ble_eq_true rfl)
          have d41 : (vs 20) = .int .u8 (fl / 2) := hV 20 (Nat.le_of_ble_eq_true rfl)
          have d42 : (vs 21) = .int .u8 (fl / 2 % 2) := hV 21 (Nat.le_of_ble_eq_true rfl)
          have d43 : (vs 22) = .bool (b2F fl) := hV 22 (Nat.le_of_ble_eq_true rfl)
          have d44 : (vs 23) = .int .u8 fl := hV 23 (Nat.le_of_ble_eq_true rfl)
          have d45 : (vs 24) = .int .u8 (fl / 4) := hV 24 (Nat.le_of_ble_eq_true rfl)
          have d46 : (vs 25) = .int .u8 (fl / 4 % 2) := hV 25 (Nat.le_of_ble_eq_true rfl)
          have d47 : (vs 26) = .bool (b4F fl) := hV 26 (Nat.le_of_ble_eq_true rfl)
          have d48 : (vs 27) = .slice (some ad) n c := hV 27 (Nat.le_of_ble_eq_true rfl)
          have d49 : (vs 28) = .slice (some ad) n c := hV 28 (Nat.le_of_ble_eq_true rfl)
          have d50 : (vs 29) = .int .i64 n := hV 29 (Nat.le_of_ble_eq_true rfl)
          have d51 : (vs 30) = .int .i64 m4 := hV 30 (Nat.le_of_ble_eq_true rfl)
          have d52 : (fun (w : World) (v : Value) => v = .slice A4 (m4 - 13) (c - 13)) W3 (vs 31) := hV 31 (Nat.le_of_ble_eq_true rfl)
          have d53 : (fun (w : World) (v : Value) => (Kd.int .u8).R 5 w w2.heap.size (fun _ => True) v D) W3 (vs 32) := hV 32 (Nat.le_of_ble_eq_true rfl)
          have d54 : (fun (w : World) (v : Value) => ∃ A c, v = .agg #[.int .u16 ep, .int .u16 sq, .int .u16 nx, .int .u32 bt, .bool (b1F fl), .bool (b2F fl), .bool (b4F fl), .slice A D.length c] ∧ (Kd.int .u8).R 5 w w2.heap.size (fun _ => True) (.slice A D.length c) D) W3 (vs 33) := hV 33 (Nat.le_of_ble_eq_true rfl)
          clear hV hFill hNe
          simp only [putAll]
          rw [hgV5] at d54
          rw [d21, d23, d24, d25, d27, d28, d29, d31, d32, d33, d35, d36, d37, d38, d39, d40, d41, d42, d43, d44, d45, d46, d47, d48, d49, d50, d51, hgP5, hgV5]
          clear d21 d23 d24 d25 d27 d28 d29 d31 d32 d33 d35 d36 d37 d38 d39 d40 d41 d42 d43 d44 d45 d46 d47 d48 d49 d50 d51 hgP5 hgV5
          generalize vs 1 = v22 at *
          generalize vs 5 = v26 at *
          generalize vs 9 = v30 at *
          generalize vs 13 = v34 at *
          generalize vs 31 = v52 at *
          generalize vs 32 = v53 at *
          generalize vs 35 = vN35
          clear vs
          simp only [Act.put, List.setIfInBounds_toArray, List.set_cons_zero, List.set_cons_succ]
          obtain ⟨A5, c5, q5, hR5⟩ := d54
          obtain ⟨_, hc5, hC5⟩ := Ru_C hR5
          injection q5 with q5
          subst q5
          have H3 := Aside0.mk (H2.out.found hb3 hgB5 hgF5)
          have HDC := Aside0.mk (And.intro hc5 hC5)
          obtain ⟨dl, hdl⟩ : ∃ n, D.length = n := ⟨_, rfl⟩
          rw [hdl] at H3 hR5
          have HR5 := Aside0.mk hR5
          clear hR5
          have HDLN := Aside0.mk hdl
          clear hb3 hgB5 hgF5 d22 d26 d30 d34 d52 d53 H2 hc5 hC5
          generalize g5 = g at *
          obtain ⟨ρ, hρ⟩ : ∃ ρ, rightF sq D.length (b1F fl) (b2F fl) (b4F fl) = ρ := ⟨_, rfl⟩
          rw [hρ] at HGO
          generalize b1F fl = fi at *
          generalize b2F fl = la at *
          generalize b4F fl = al at *
          have HFR : Aside0 (FrC W3 ep sq nx bt fi la al D (.agg #[.int .u16 ep, .int .u16 sq, .int .u16 nx, .int .u32 bt, .bool fi, .bool la, .bool al, .slice A5 dl c5])) := ⟨A5, c5, by rw [HDLN.out], HDC.out.1, HDC.out.2⟩
          go_wp2_with (first | (refine wpList_load_row_g 79 (.tmp 5) rfl g rfl rfl 79 _ (0, 0) _ (H3.out.get (i := 0) rfl) Try.underlying79 rfl (rframe_info _ _ _ _ _ _ _ _) ?_))
          refine (rright11_any ep sq nx bt fi la al D _ W3 HFR.out).mono ?_
          rintro e w4 ⟨rfl, hb4⟩
          rw [hρ]
          have H4 := Aside0.mk (H3.out.call hb4)
          have HFR4 := Aside0.mk (HFR.out.below hb4)
          have HB34 := Aside0.mk hb4
          clear hb4 H3 HFR hρ
          cases ρ with
          | false =>
            have HR : Aside0 (parseF p = badF 2) := ⟨by rw [HRP.out, HGO.out, Bool.false_and, if_neg (by decide)]⟩
            go_wp2_with (first | (refine wpList_store_row rfl 79 (.tmp 2) (.tmp 65) rfl B #[.int .u16 0, .int .u16 0, .int .u16 0, .int .u32 0, .bool false, .bool false, .bool false, .slice none 0 0] rfl rfl 79 _ (H4.out.get (i := 1) rfl) (rframe_info _ _ _ _ _ _ _ _) rfl (by simp [Value.oneCell']) ?_))
            have H9 := Aside0.mk (H4.out.setRow (i := 1) rfl #[.int .u16 0, .int .u16 0, .int .u16 0, .int .u32 0, .bool false, .bool false, .bool false, .slice none 0 0])
            refine bodyPost_ret (results_ct rfl _ _ B _ #[.int .u16 0, .int .u16 0, .int .u16 0, .int .u32 0, .bool false, .bool false, .bool false, .slice none 0 0] (0, 0) _ rfl (H9.out.get (i := 1) rfl) Try.underlying79 rfl (rframe_info _ _ _ _ _ _ _ _)) rfl ?_
            exact ⟨FParseR.of HR.out (FrC_zero _), H9.out.bel⟩
          | true =>
            go_wp2_with (first | (refine wpList_load_row_g 79 (.tmp 5) rfl g rfl rfl 79 _ (0, 0) _ (H4.out.get (i := 0) rfl) Try.underlying79 rfl (rframe_info _ _ _ _ _ _ _ _) ?_))
            refine (rbytes11_any ep sq nx bt fi la al D _ w4 HFR4.out HE.out HDB.out.1 HDB.out.2).mono ?_
            rintro e w5 ⟨v5, rfl, hv5, hb5⟩
            have H5 := Aside0.mk (H4.out.call hb5)
            have HFR5 := Aside0.mk (HFR4.out.below hb5)
            have HB35 := Aside0.mk (HB34.out.trans (hb5.mono HB34.out.size))
            obtain ⟨A6, c6, rfl, hc6, hC6⟩ := hv5
            have HV6 : Aside0 (BvC w5 (sealL (rBody ep sq nx bt fi la al D)) (.slice A6 (sealL (rBody ep sq nx bt fi la al D)).length c6)) := ⟨A6, c6, rfl, hc6, hC6⟩
            obtain ⟨S, hS⟩ : ∃ S, sealL (rBody ep sq nx bt fi la al D) = S := ⟨_, rfl⟩
            rw [hS] at HV6 HGO
            rw [hS]
            obtain ⟨sl, hsl⟩ : ∃ n, S.length = n := ⟨_, rfl⟩
            clear hb5 H4 HFR4 hc6 hC6 hS
            have KS := Aside0.mk (same_told S p _ _ w5 HV6.out ⟨some ad, c, rfl, by rw [HQL.out]; exact HC.out, by rw [HQL.out]; exact HF.out w5 H5.out.bel⟩)
            rw [HQL.out, hsl] at KS
            rw [hsl]
            go_wp2_with (first | (refine wpList_load_row_g 79 (.tmp 5) rfl g rfl rfl 79 _ (0, 0) _ (H4.out.get (i := 0) rfl) Try.underlying79 rfl (rframe_info _ _ _ _ _ _ _ _) ?_))
            refine KS.out.mono ?_
            rintro e w6 ⟨rfl, hb6⟩
            have H6 := Aside0.mk (H5.out.call hb6)
            have HR6 := Aside0.mk (Kd.R_below HR5.out (HB35.out.trans (hb6.mono HB35.out.size)))
            clear hb6 H5 HFR5 KS HV6
            by_cases hsp : S = p
            · have dsp : decide (S = p) = true := decide_eq_true hsp
              have HR : Aside0 (parseF p = ⟨0, ep, sq, nx, bt, fi, la, al, D⟩) := ⟨by rw [HRP.out, HGO.out, dsp, Bool.true_and, if_pos rfl]⟩
              rw [dsp]
              go_wp2_with (first | (refine wpList_load_row_g 79 (.tmp 5) rfl g rfl rfl 79 _ (0, 0) _ (H6.out.get (i := 0) rfl) Try.underlying79 rfl (rframe_info _ _ _ _ _ _ _ _) ?_) | (refine wpList_store_row rfl 79 (.tmp 2) (.tmp 66) rfl B #[.int .u16 ep, .int .u16 sq, .int .u16 nx, .int .u32 bt, .bool fi, .bool la, .bool al, .slice A5 dl c5] rfl rfl 79 _ (H6.out.get (i := 1) rfl) (rframe_info _ _ _ _ _ _ _ _) rfl (by simp [Value.oneCell']) ?_))
              have H9 := Aside0.mk (H6.out.setRow (i := 1) rfl #[.int .u16 ep, .int .u16 sq, .int .u16 nx, .int .u32 bt, .bool fi, .bool la, .bool al, .slice A5 dl c5])
              refine bodyPost_ret (results_ct rfl _ _ B _ #[.int .u16 ep, .int .u16 sq, .int .u16 nx, .int .u32 bt, .bool fi, .bool la, .bool al, .slice A5 dl c5] (0, 0) _ rfl (H9.out.get (i := 1) rfl) Try.underlying79 rfl (rframe_info _ _ _ _ _ _ _ _)) rfl ?_
              have hR9 := Kd.R_grown2 HR6.out rfl (grown_setRow w6 B #[.int .u16 ep, .int .u16 sq, .int .u16 nx, .int .u32 bt, .bool fi, .bool la, .bool al, .slice A5 dl c5]) (fun k hk => by cases hk; exact Kd.R_ne HR6.out (H6.out.get (i := 1) rfl) (by decide))
              exact ⟨FParseR.of HR.out ⟨A5, c5, by rw [HDLN.out], HDC.out.1, by rw [HDLN.out]; exact (Ru_C hR9).2.2⟩, H9.out.bel⟩
            · have dsp : decide (S = p) = false := decide_eq_false hsp
              have HR : Aside0 (parseF p = badF 2) := ⟨by rw [HRP.out, HGO.out, dsp, Bool.true_and, if_neg (by decide)]⟩
              rw [dsp]
              go_wp2_with (first | (refine wpList_store_row rfl 79 (.tmp 2) (.tmp 65) rfl B #[.int .u16 0, .int .u16 0, .int .u16 0, .int .u32 0, .bool false, .bool false, .bool false, .slice none 0 0] rfl rfl 79 _ (H6.out.get (i := 1) rfl) (rframe_info _ _ _ _ _ _ _ _) rfl (by simp [Value.oneCell']) ?_))
              have H9 := Aside0.mk (H6.out.setRow (i := 1) rfl #[.int .u16 0, .int .u16 0, .int .u16 0, .int .u32 0, .bool false, .bool false, .bool false, .slice none 0 0])
              refine bodyPost_ret (results_ct rfl _ _ B _ #[.int .u16 0, .int .u16 0, .int .u16 0, .int .u32 0, .bool false, .bool false, .bool false, .slice none 0 0] (0, 0) _ rfl (H9.out.get (i := 1) rfl) Try.underlying79 rfl (rframe_info _ _ _ _ _ _ _ _)) rfl ?_
              exact ⟨FParseR.of HR.out (FrC_zero _), H9.out.bel⟩
end Go.Proofs.Yticpjidcgaaldaa

namespace Go.Proofs.Yticpjidcgaaldaa
open Go.RowKit Go.Proofs.YticpjidcgaaldaaW.PrintWords Go.Proofs.YticpjidcgaaldaaW.PrintLast Go.Proofs.YticpjidcgaaldaaW.PrintMore
set_option linter.unusedVariables false
set_option linter.unusedSimpArgs false

set_option maxRecDepth 100000 in
set_option maxHeartbeats 16000000 in
theorem rsame11_any (ep sq nx bt ep' sq' nx' bt' : Int) (fi la al fi' la' al' : Bool) (D D' : List Int) (v u : Value) (w00 : World) (hv : FrC w00 ep sq nx bt fi la al D v) (hu : FrC w00 ep' sq' nx' bt' fi' la' al' D' u) (hD : D.length ≤ 1000000) (β : Bool) (hβ : β = true ↔ ep = ep' ∧ sq = sq' ∧ nx = nx' ∧ bt = bt' ∧ (fi = fi' ∧ la = la' ∧ al = al') ∧ D = D') :
    Calls Try.prog 36 #[v, u] w00 fun e w' => e = .returned (.bool β) ∧ Below w00.heap.size w00 w' := by
  have HBE := Aside0.mk hβ
  have KF := Aside0.mk (fun (z : World) (h : Below w00.heap.size w00 z) => rflags_any ep sq nx bt fi la al D v z (hv.below h))
  have KG := Aside0.mk (fun (z : World) (h : Below w00.heap.size w00 z) => rflags_any ep' sq' nx' bt' fi' la' al' D' u z (hu.below h))
  obtain ⟨A, c, rfl, h2, h3⟩ := hv
  obtain ⟨A', c', rfl, k2, k3⟩ := hu
  obtain ⟨γ, hγ⟩ : ∃ γ : Bool, decide (D = D') = γ := ⟨_, rfl⟩
  have HGM : Aside0 (γ = true ↔ D = D') := ⟨by rw [← hγ]; exact decide_eq_true_iff⟩
  have KE := Aside0.mk (fun (z : World) (h : Below w00.heap.size w00 z) => same_told D D' _ _ z ⟨A, c, rfl, h2, Kd.C_below h3 h⟩ ⟨A', c', rfl, k2, Kd.C_below k3 h⟩)
  rw [hγ] at KE
  have H0 := Aside0.mk (((Hp.start w00).alloc (.cells #[.int .u16 ep, .int .u16 sq, .int .u16 nx, .int .u32 bt, .bool fi, .bool la, .bool al, .slice A D.length c] 79)).allocAt (.cells #[.int .u16 ep', .int .u16 sq', .int .u16 nx', .int .u32 bt', .bool fi', .bool la', .bool al', .slice A' D'.length c'] 79) (w00.heap.size + 1) (by simp))
  clear h2 h3 k2 k3 hD hβ hγ
  obtain ⟨n, hn⟩ : ∃ n, D.length = n := ⟨_, rfl⟩
  obtain ⟨n', hn'⟩ : ∃ n, D'.length = n := ⟨_, rfl⟩
  rw [hn] at KF
  rw [hn'] at KG
  rw [hn, hn'] at KE H0
  rw [hn, hn']
  clear hn hn'
  obtain ⟨fl, hfl⟩ : ∃ x, flagsF fi la al = x := ⟨_, rfl⟩
  obtain ⟨fl', hfl'⟩ : ∃ x, flagsF fi' la' al' = x := ⟨_, rfl⟩
  have HFL := Aside0.mk (flagsF_inj fi la al fi' la' al')
  rw [hfl] at KF HFL
  rw [hfl'] at KG HFL
  clear hfl hfl'
  go_enter Try.func36, Try.ntmps36
  go_wp2_with fail
  generalize (w00.alloc (.cells #[.int .u16 ep, .int .u16 sq, .int .u16 nx, .int .u32 bt, .bool fi, .bool la, .bool al, .slice A n c] 79)).alloc (.cells #[.int .u16 ep', .int .u16 sq', .int .u16 nx', .int .u32 bt', .bool fi', .bool la', .bool al', .slice A' n' c'] 79) = W at *
  obtain ⟨gd, hgd⟩ : ∃ gd, w00.heap.size = gd := ⟨_, rfl⟩
  rw [hgd] at H0 KF KG KE
  rw [hgd]
  have HGD := Aside0.mk hgd
  clear hgd
  have HA : Aside0 (∀ z, Below W.heap.size W z → z.heap[gd]? = some (.cells #[.int .u16 ep, .int .u16 sq, .int .u16 nx, .int .u32 bt, .bool fi, .bool la, .bool al, .slice A n c] 79 (0, 0))) := ⟨fun z hz => (hz.block gd (H0.out.lt (i := 1) rfl)).trans (H0.out.get (i := 1) rfl)⟩
  have HB : Aside0 (∀ z, Below W.heap.size W z → z.heap[gd + 1]? = some (.cells #[.int .u16 ep', .int .u16 sq', .int .u16 nx', .int .u32 bt', .bool fi', .bool la', .bool al', .slice A' n' c'] 79 (0, 0))) := ⟨fun z hz => (hz.block (gd + 1) (H0.out.lt (i := 0) rfl)).trans (H0.out.get (i := 0) rfl)⟩
  have HBW : Aside0 (∀ z, Below W.heap.size W z → Below gd w00 z) := ⟨fun z hz => H0.out.bel.trans (hz.mono H0.out.le)⟩
  obtain ⟨c0, h0⟩ : ∃ b, (ep == ep') = b := ⟨_, rfl⟩
  obtain ⟨b1, h1⟩ : ∃ b, (sq == sq') = b := ⟨_, rfl⟩
  obtain ⟨b2, h2⟩ : ∃ b, (nx == nx') = b := ⟨_, rfl⟩
  obtain ⟨b3, h3⟩ : ∃ b, (bt == bt') = b := ⟨_, rfl⟩
  obtain ⟨b4, h4⟩ : ∃ b, (fl == fl') = b := ⟨_, rfl⟩
  have HC5 : Aside0 ((((((c0 && b1) && b2) && b3) && b4) && γ) = β) := ⟨by
    rw [Bool.eq_iff_iff, HBE.out, ← h0, ← h1, ← h2, ← h3, ← h4]
    simp only [Bool.and_eq_true, beq_iff_eq, HGM.out, HFL.out]
    constructor
    · rintro ⟨⟨⟨⟨⟨a, b⟩, c⟩, d⟩, e⟩, f⟩; exact ⟨a, b, c, d, e, f⟩
    · rintro ⟨a, b, c, d, e, f⟩; exact ⟨⟨⟨⟨⟨a, b⟩, c⟩, d⟩, e⟩, f⟩⟩
  obtain ⟨c1, q1⟩ : ∃ b, (c0 && b1) = b := ⟨_, rfl⟩
  rw [q1] at HC5
  obtain ⟨c2, q2⟩ : ∃ b, (c1 && b2) = b := ⟨_, rfl⟩
  rw [q2] at HC5
  obtain ⟨c3, q3⟩ : ∃ b, (c2 && b3) = b := ⟨_, rfl⟩
  rw [q3] at HC5
  obtain ⟨c4, q4⟩ : ∃ b, (c3 && b4) = b := ⟨_, rfl⟩
  rw [q4] at HC5
  have HC0 := Aside0.mk h0
  have HB1 := Aside0.mk h1
  have HB2 := Aside0.mk h2
  have HB3 := Aside0.mk h3
  have HB4 := Aside0.mk h4
  have HC1 := Aside0.mk q1
  have HC2 := Aside0.mk q2
  have HC3 := Aside0.mk q3
  have HC4 := Aside0.mk q4
  clear h0 h1 h2 h3 h4 q1 q2 q3 q4
  refine region_grown (W := W)
    [fun (w : World) (v : Value) => v = .pointer (some ⟨gd, 0, none⟩),
     fun (w : World) (v : Value) => v = .int .u16 ep,
     fun (w : World) (v : Value) => v = .pointer (some ⟨gd + 1, 0, none⟩),
     fun (w : World) (v : Value) => v = .int .u16 ep',
     fun (w : World) (v : Value) => v = .bool c0,
     fun (w : World) (v : Value) => v = .bool c0,
     fun (w : World) (v : Value) => v = (if c0 = true then .pointer (some ⟨gd, 1, none⟩) else undef),
     fun (w : World) (v : Value) => v = (if c0 = true then .int .u16 sq else undef),
     fun (w : World) (v : Value) => v = (if c0 = true then .pointer (some ⟨gd + 1, 1, none⟩) else undef),
     fun (w : World) (v : Value) => v = (if c0 = true then .int .u16 sq' else undef),
     fun (w : World) (v : Value) => v = (if c0 = true then .bool b1 else undef),
     fun (w : World) (v : Value) => v = .bool c1,
     fun (w : World) (v : Value) => v = .bool c1,
     fun (w : World) (v : Value) => v = (if c1 = true then .pointer (some ⟨gd, 2, none⟩) else undef),
     fun (w : World) (v : Value) => v = (if c1 = true then .int .u16 nx else undef),
     fun (w : World) (v : Value) => v = (if c1 = true then .pointer (some ⟨gd + 1, 2, none⟩) else undef),
     fun (w : World) (v : Value) => v = (if c1 = true then .int .u16 nx' else undef),
     fun (w : World) (v : Value) => v = (if c1 = true then .bool b2 else undef),
     fun (w : World) (v : Value) => v = .bool c2,
     fun (w : World) (v : Value) => v = .bool c2,
     fun (w : World) (v : Value) => v = (if c2 = true then .pointer (some ⟨gd, 3, none⟩) else undef),
     fun (w : World) (v : Value) => v = (if c2 = true then .int .u32 bt else undef),
     fun (w : World) (v : Value) => v = (if c2 = true then .pointer (some ⟨gd + 1, 3, none⟩) else undef),
     fun (w : World) (v : Value) => v = (if c2 = true then .int .u32 bt' else undef),
     fun (w : World) (v : Value) => v = (if c2 = true then .bool b3 else undef),
     fun (w : World) (v : Value) => v = .bool c3,
     fun (w : World) (v : Value) => v = .bool c3,
     fun (w : World) (v : Value) => v = (if c3 = true then .agg #[.int .u16 ep, .int .u16 sq, .int .u16 nx, .int .u32 bt, .bool fi, .bool la, .bool al, .slice A n c] else undef),
     fun (w : World) (v : Value) => v = (if c3 = true then .int .u8 fl else undef),
     fun (w : World) (v : Value) => v = (if c3 = true then .agg #[.int .u16 ep', .int .u16 sq', .int .u16 nx', .int .u32 bt', .bool fi', .bool la', .bool al', .slice A' n' c'] else undef),
     fun (w : World) (v : Value) => v = (if c3 = true then .int .u8 fl' else undef),
     fun (w : World) (v : Value) => v = (if c3 = true then .bool b4 else undef),
     fun (w : World) (v : Value) => v = .bool c4,
     fun (w : World) (v : Value) => v = .bool c4,
     fun (w : World) (v : Value) => v = (if c4 = true then .pointer (some ⟨gd, 7, none⟩) else undef),
     fun (w : World) (v : Value) => v = (if c4 = true then .slice A n c else undef),
     fun (w : World) (v : Value) => v = (if c4 = true then .pointer (some ⟨gd + 1, 7, none⟩) else undef),
     fun (w : World) (v : Value) => v = (if c4 = true then .slice A' n' c' else undef),
     fun (w : World) (v : Value) => v = (if c4 = true then .bool γ else undef),
     fun (w : World) (v : Value) => v = .bool β,
     fun (w : World) (v : Value) => v = .bool β]
    (fun j => if j = 5 then some c0 else if j = 12 then some c1 else if j = 19 then some c2 else if j = 26 then some c3 else if j = 33 then some c4 else none)
    [(0, some 5), (1, some 6), (2, some 7), (3, some 8), (4, some 9), (5, some 10), (6, some 11), (7, some 12), (8, some 13), (9, some 14), (10, some 15), (11, some 16), (12, some 17), (13, some 18), (14, some 19), (15, some 20), (16, some 21), (17, some 22), (18, some 23), (19, some 24), (20, some 25), (21, some 26), (22, some 27), (23, some 28), (24, some 29), (25, some 30), (26, some 31), (27, some 32), (28, some 33), (29, some 34), (30, some 35), (31, some 36), (32, some 37), (33, some 38), (34, some 39), (35, some 40), (36, some 41), (37, some 42), (38, some 43), (39, some 44), (40, some 4)]
    [5, 12, 19, 26, 33]
    (by kernel_rfl) (by kernel_rfl) (by kernel_rfl) (by kernel_rfl) ?r1_1g ?r1_1s ⟨?r1_1o0, ?r1_1o1, ?r1_1o2, ?r1_1o3, ?r1_1o4, ?r1_1o5, ?r1_1o6, ?r1_1o7, ?r1_1o8, ?r1_1o9, ?r1_1o10, ?r1_1o11, ?r1_1o12, ?r1_1o13, ?r1_1o14, ?r1_1o15, ?r1_1o16, ?r1_1o17, ?r1_1o18, ?r1_1o19, ?r1_1o20, ?r1_1o21, ?r1_1o22, ?r1_1o23, ?r1_1o24, ?r1_1o25, ?r1_1o26, ?r1_1o27, ?r1_1o28, ?r1_1o29, ?r1_1o30, ?r1_1o31, ?r1_1o32, ?r1_1o33, ?r1_1o34, ?r1_1o35, ?r1_1o36, ?r1_1o37, ?r1_1o38, ?r1_1o39, ?r1_1o40, trivial⟩ ?r1_1e
  case r1_1g =>
    intro j hj w v hv
    simp only [List.mem_cons, List.not_mem_nil, or_false] at hj
    rcases hj with rfl | rfl | rfl | rfl | rfl
    · have hv' : v = .bool c0 := hv; rw [hv']; rfl
    · have hv' : v = .bool c1 := hv; rw [hv']; rfl
    · have hv' : v = .bool c2 := hv; rw [hv']; rfl
    · have hv' : v = .bool c3 := hv; rw [hv']; rfl
    · have hv' : v = .bool c4 := hv; rw [hv']; rfl
  case r1_1s =>
    refine ⟨(fun w w' v hb h => h), (fun w w' v hb h => h), (fun w w' v hb h => h), (fun w w' v hb h => h), (fun w w' v hb h => h), (fun w w' v hb h => h), (fun w w' v hb h => h), (fun w w' v hb h => h), (fun w w' v hb h => h), (fun w w' v hb h => h), (fun w w' v hb h => h), (fun w w' v hb h => h), (fun w w' v hb h => h), (fun w w' v hb h => h), (fun w w' v hb h => h), (fun w w' v hb h => h), (fun w w' v hb h => h), (fun w w' v hb h => h), (fun w w' v hb h => h), (fun w w' v hb h => h), (fun w w' v hb h => h), (fun w w' v hb h => h), (fun w w' v hb h => h), (fun w w' v hb h => h), (fun w w' v hb h => h), (fun w w' v hb h => h), (fun w w' v hb h => h), (fun w w' v hb h => h), (fun w w' v hb h => h), (fun w w' v hb h => h), (fun w w' v hb h => h), (fun w w' v hb h => h), (fun w w' v hb h => h), (fun w w' v hb h => h), (fun w w' v hb h => h), (fun w w' v hb h => h), (fun w w' v hb h => h), (fun w w' v hb h => h), (fun w w' v hb h => h), (fun w w' v hb h => h), (fun w w' v hb h => h), trivial⟩
  case r1_1o0 =>
    intro vs w hb hV
    rw [if_pos (by first | kernel_rfl | rfl)]
    generalize hρ : rho _ _ _ vs = ρ
    have e2 : ρ (.tmp 2) = .pointer (some ⟨gd, 0, none⟩) := by rw [← hρ]; kernel_rfl
    clear hρ hV
    refine runs_val (v := .pointer (some ⟨gd, 0, none⟩)) (w' := w) ?_ ⟨Below.refl _ _, rfl⟩
    go_simp <;> (first | exact IntWalk.u64_in _ (by omega) | exact IntWalk.u32_in _ (by omega) | exact IntWalk.u16_in _ (by omega) | exact IntWalk.u8_in _ (by omega) | exact IntWalk.i64_in _ (by omega) | skip)
  case r1_1o1 =>
    intro vs w hb hV
    rw [if_pos (by first | kernel_rfl | rfl)]
    generalize hρ : rho _ _ _ vs = ρ
    have d5 : (vs 0) = .pointer (some ⟨gd, 0, none⟩) := hV 0 (by first | kernel_rfl | rfl)
    have e5 : ρ (.tmp 5) = vs 0 := by rw [← hρ]; kernel_rfl
    rw [d5] at e5; clear d5
    clear hρ hV
    have c0 := blk_cell (HA.out w hb) 0
    refine runs_val (v := .int .u16 ep) (w' := w) ?_ ⟨Below.refl _ _, rfl⟩
    go_simp
  case r1_1o2 =>
    intro vs w hb hV
    rw [if_pos (by first | kernel_rfl | rfl)]
    generalize hρ : rho _ _ _ vs = ρ
    have e3 : ρ (.tmp 3) = .pointer (some ⟨gd + 1, 0, none⟩) := by rw [← hρ]; kernel_rfl
    clear hρ hV
    refine runs_val (v := .pointer (some ⟨gd + 1, 0, none⟩)) (w' := w) ?_ ⟨Below.refl _ _, rfl⟩
    go_simp <;> (first | exact IntWalk.u64_in _ (by omega) | exact IntWalk.u32_in _ (by omega) | exact IntWalk.u16_in _ (by omega) | exact IntWalk.u8_in _ (by omega) | exact IntWalk.i64_in _ (by omega) | skip)
  case r1_1o3 =>
    intro vs w hb hV
    rw [if_pos (by first | kernel_rfl | rfl)]
    generalize hρ : rho _ _ _ vs = ρ
    have d7 : (vs 2) = .pointer (some ⟨gd + 1, 0, none⟩) := hV 2 (by first | kernel_rfl | rfl)
    have e7 : ρ (.tmp 7) = vs 2 := by rw [← hρ]; kernel_rfl
    rw [d7] at e7; clear d7
    clear hρ hV
    have c0 := blk_cell (HB.out w hb) 0
    refine runs_val (v := .int .u16 ep') (w' := w) ?_ ⟨Below.refl _ _, rfl⟩
    go_simp
  case r1_1o4 =>
    intro vs w hb hV
    rw [if_pos (by first | kernel_rfl | rfl)]
    generalize hρ : rho _ _ _ vs = ρ
    have d6 : (vs 1) = .int .u16 ep := hV 1 (by first | kernel_rfl | rfl)
    have e6 : ρ (.tmp 6) = vs 1 := by rw [← hρ]; kernel_rfl
    rw [d6] at e6; clear d6
    have d8 : (vs 3) = .int .u16 ep' := hV 3 (by first | kernel_rfl | rfl)
    have e8 : ρ (.tmp 8) = vs 3 := by rw [← hρ]; kernel_rfl
    rw [d8] at e8; clear d8
    clear hρ hV
    have hh := HC0.out
    refine runs_val (v := .bool c0) (w' := w) ?_ ⟨Below.refl _ _, rfl⟩
    rw [← hh]
    go_simp
  case r1_1o5 =>
    intro vs w hb hV
    rw [if_pos (by first | kernel_rfl | rfl)]
    generalize hρ : rho _ _ _ vs = ρ
    have d9 : (vs 4) = .bool c0 := hV 4 (by first | kernel_rfl | rfl)
    have e9 : ρ (.tmp 9) = vs 4 := by rw [← hρ]; kernel_rfl
    clear hρ hV
    refine runs_val (v := vs 4) (w' := w) ?_ ⟨Below.refl _ _, d9⟩
    go_simp
  case r1_1o6 =>
    intro vs w hb hV
    cases c0 with
    | false => (rw [if_neg (fun h => absurd (show false = true from h) Bool.false_ne_true)]) <;> exact rfl
    | true =>
      rw [if_pos (by first | kernel_rfl | rfl)]
      generalize hρ : rho _ _ _ vs = ρ
      have e2 : ρ (.tmp 2) = .pointer (some ⟨gd, 0, none⟩) := by rw [← hρ]; kernel_rfl
      clear hρ hV
      refine runs_val (v := .pointer (some ⟨gd, 1, none⟩)) (w' := w) ?_ ⟨Below.refl _ _, rfl⟩
      go_simp <;> (first | exact IntWalk.u64_in _ (by omega) | exact IntWalk.u32_in _ (by omega) | exact IntWalk.u16_in _ (by omega) | exact IntWalk.u8_in _ (by omega) | exact IntWalk.i64_in _ (by omega) | skip)
  case r1_1o7 =>
    intro vs w hb hV
    cases c0 with
    | false => (rw [if_neg (fun h => absurd (show false = true from h) Bool.false_ne_true)]) <;> exact rfl
    | true =>
      rw [if_pos (by first | kernel_rfl | rfl)]
      generalize hρ : rho _ _ _ vs = ρ
      have d11 : (vs 6) = .pointer (some ⟨gd, 1, none⟩) := hV 6 (by first | kernel_rfl | rfl)
      have e11 : ρ (.tmp 11) = vs 6 := by rw [← hρ]; kernel_rfl
      rw [d11] at e11; clear d11
      clear hρ hV
      have c0 := blk_cell (HA.out w hb) 1
      refine runs_val (v := .int .u16 sq) (w' := w) ?_ ⟨Below.refl _ _, rfl⟩
      go_simp
  case r1_1o8 =>
    intro vs w hb hV
    cases c0 with
    | false => (rw [if_neg (fun h => absurd (show false = true from h) Bool.false_ne_true)]) <;> exact rfl
    | true =>
      rw [if_pos (by first | kernel_rfl | rfl)]
      generalize hρ : rho _ _ _ vs = ρ
      have e3 : ρ (.tmp 3) = .pointer (some ⟨gd + 1, 0, none⟩) := by rw [← hρ]; kernel_rfl
      clear hρ hV
      refine runs_val (v := .pointer (some ⟨gd + 1, 1, none⟩)) (w' := w) ?_ ⟨Below.refl _ _, rfl⟩
      go_simp <;> (first | exact IntWalk.u64_in _ (by omega) | exact IntWalk.u32_in _ (by omega) | exact IntWalk.u16_in _ (by omega) | exact IntWalk.u8_in _ (by omega) | exact IntWalk.i64_in _ (by omega) | skip)
  case r1_1o9 =>
    intro vs w hb hV
    cases c0 with
    | false => (rw [if_neg (fun h => absurd (show false = true from h) Bool.false_ne_true)]) <;> exact rfl
    | true =>
      rw [if_pos (by first | kernel_rfl | rfl)]
      generalize hρ : rho _ _ _ vs = ρ
      have d13 : (vs 8) = .pointer (some ⟨gd + 1, 1, none⟩) := hV 8 (by first | kernel_rfl | rfl)
      have e13 : ρ (.tmp 13) = vs 8 := by rw [← hρ]; kernel_rfl
      rw [d13] at e13; clear d13
      clear hρ hV
      have c0 := blk_cell (HB.out w hb) 1
      refine runs_val (v := .int .u16 sq') (w' := w) ?_ ⟨Below.refl _ _, rfl⟩
      go_simp
  case r1_1o10 =>
    intro vs w hb hV
    cases c0 with
    | false => (rw [if_neg (fun h => absurd (show false = true from h) Bool.false_ne_true)]) <;> exact rfl
    | true =>
      rw [if_pos (by first | kernel_rfl | rfl)]
      generalize hρ : rho _ _ _ vs = ρ
      have d12 : (vs 7) = .int .u16 sq := hV 7 (by first | kernel_rfl | rfl)
      have e12 : ρ (.tmp 12) = vs 7 := by rw [← hρ]; kernel_rfl
      rw [d12] at e12; clear d12
      have d14 : (vs 9) = .int .u16 sq' := hV 9 (by first | kernel_rfl | rfl)
      have e14 : ρ (.tmp 14) = vs 9 := by rw [← hρ]; kernel_rfl
      rw [d14] at e14; clear d14
      clear hρ hV
      have hh := HB1.out
      refine runs_val (v := .bool b1) (w' := w) ?_ ⟨Below.refl _ _, rfl⟩
      rw [← hh]
      go_simp
  case r1_1o11 =>
    intro vs w hb hV
    rw [if_pos (by first | kernel_rfl | rfl)]
    generalize hρ : rho _ _ _ vs = ρ
    have d10 : (vs 5) = .bool c0 := hV 5 (by first | kernel_rfl | rfl)
    have e10 : ρ (.tmp 10) = vs 5 := by rw [← hρ]; kernel_rfl
    rw [d10] at e10; clear d10
    have d15 : (vs 10) = (if c0 = true then .bool b1 else undef) := hV 10 (by first | kernel_rfl | rfl)
    have e15 : ρ (.tmp 15) = vs 10 := by rw [← hρ]; kernel_rfl
    rw [d15] at e15; clear d15
    have econ : ∀ v : Value, ρ (.const v) = v := fun v => by rw [← hρ]; rfl
    clear hρ hV
    have hh := HC1.out
    cases c0 <;> simp only [if_true, if_false, Bool.false_eq_true, Bool.true_and, Bool.false_and] at e15 hh <;> subst hh <;> refine runs_val (v := _) (w' := w) ?_ ⟨Below.refl _ _, rfl⟩ <;> go_simp
  case r1_1o12 =>
    intro vs w hb hV
    rw [if_pos (by first | kernel_rfl | rfl)]
    generalize hρ : rho _ _ _ vs = ρ
    have d16 : (vs 11) = .bool c1 := hV 11 (by first | kernel_rfl | rfl)
    have e16 : ρ (.tmp 16) = vs 11 := by rw [← hρ]; kernel_rfl
    clear hρ hV
    refine runs_val (v := vs 11) (w' := w) ?_ ⟨Below.refl _ _, d16⟩
    go_simp
  case r1_1o13 =>
    intro vs w hb hV
    cases c1 with
    | false => (rw [if_neg (fun h => absurd (show false = true from h) Bool.false_ne_true)]) <;> exact rfl
    | true =>
      rw [if_pos (by first | kernel_rfl | rfl)]
      generalize hρ : rho _ _ _ vs = ρ
      have e2 : ρ (.tmp 2) = .pointer (some ⟨gd, 0, none⟩) := by rw [← hρ]; kernel_rfl
      clear hρ hV
      refine runs_val (v := .pointer (some ⟨gd, 2, none⟩)) (w' := w) ?_ ⟨Below.refl _ _, rfl⟩
      go_simp <;> (first | exact IntWalk.u64_in _ (by omega) | exact IntWalk.u32_in _ (by omega) | exact IntWalk.u16_in _ (by omega) | exact IntWalk.u8_in _ (by omega) | exact IntWalk.i64_in _ (by omega) | skip)
  case r1_1o14 =>
    intro vs w hb hV
    cases c1 with
    | false => (rw [if_neg (fun h => absurd (show false = true from h) Bool.false_ne_true)]) <;> exact rfl
    | true =>
      rw [if_pos (by first | kernel_rfl | rfl)]
      generalize hρ : rho _ _ _ vs = ρ
      have d18 : (vs 13) = .pointer (some ⟨gd, 2, none⟩) := hV 13 (by first | kernel_rfl | rfl)
      have e18 : ρ (.tmp 18) = vs 13 := by rw [← hρ]; kernel_rfl
      rw [d18] at e18; clear d18
      clear hρ hV
      have c0 := blk_cell (HA.out w hb) 2
      refine runs_val (v := .int .u16 nx) (w' := w) ?_ ⟨Below.refl _ _, rfl⟩
      go_simp
  case r1_1o15 =>
    intro vs w hb hV
    cases c1 with
    | false => (rw [if_neg (fun h => absurd (show false = true from h) Bool.false_ne_true)]) <;> exact rfl
    | true =>
      rw [if_pos (by first | kernel_rfl | rfl)]
      generalize hρ : rho _ _ _ vs = ρ
      have e3 : ρ (.tmp 3) = .pointer (some ⟨gd + 1, 0, none⟩) := by rw [← hρ]; kernel_rfl
      clear hρ hV
      refine runs_val (v := .pointer (some ⟨gd + 1, 2, none⟩)) (w' := w) ?_ ⟨Below.refl _ _, rfl⟩
      go_simp <;> (first | exact IntWalk.u64_in _ (by omega) | exact IntWalk.u32_in _ (by omega) | exact IntWalk.u16_in _ (by omega) | exact IntWalk.u8_in _ (by omega) | exact IntWalk.i64_in _ (by omega) | skip)
  case r1_1o16 =>
    intro vs w hb hV
    cases c1 with
    | false => (rw [if_neg (fun h => absurd (show false = true from h) Bool.false_ne_true)]) <;> exact rfl
    | true =>
      rw [if_pos (by first | kernel_rfl | rfl)]
      generalize hρ : rho _ _ _ vs = ρ
      have d20 : (vs 15) = .pointer (some ⟨gd + 1, 2, none⟩) := hV 15 (by first | kernel_rfl | rfl)
      have e20 : ρ (.tmp 20) = vs 15 := by rw [← hρ]; kernel_rfl
      rw [d20] at e20; clear d20
      clear hρ hV
      have c0 := blk_cell (HB.out w hb) 2
      refine runs_val (v := .int .u16 nx') (w' := w) ?_ ⟨Below.refl _ _, rfl⟩
      go_simp
  case r1_1o17 =>
    intro vs w hb hV
    cases c1 with
    | false => (rw [if_neg (fun h => absurd (show false = true from h) Bool.false_ne_true)]) <;> exact rfl
    | true =>
      rw [if_pos (by first | kernel_rfl | rfl)]
      generalize hρ : rho _ _ _ vs = ρ
      have d19 : (vs 14) = .int .u16 nx := hV 14 (by first | kernel_rfl | rfl)
      have e19 : ρ (.tmp 19) = vs 14 := by rw [← hρ]; kernel_rfl
      rw [d19] at e19; clear d19
      have d21 : (vs 16) = .int .u16 nx' := hV 16 (by first | kernel_rfl | rfl)
      have e21 : ρ (.tmp 21) = vs 16 := by rw [← hρ]; kernel_rfl
      rw [d21] at e21; clear d21
      clear hρ hV
      have hh := HB2.out
      refine runs_val (v := .bool b2) (w' := w) ?_ ⟨Below.refl _ _, rfl⟩
      rw [← hh]
      go_simp
  case r1_1o18 =>
    intro vs w hb hV
    rw [if_pos (by first | kernel_rfl | rfl)]
    generalize hρ : rho _ _ _ vs = ρ
    have d17 : (vs 12) = .bool c1 := hV 12 (by first | kernel_rfl | rfl)
    have e17 : ρ (.tmp 17) = vs 12 := by rw [← hρ]; kernel_rfl
    rw [d17] at e17; clear d17
    have d22 : (vs 17) = (if c1 = true then .bool b2 else undef) := hV 17 (by first | kernel_rfl | rfl)
    have e22 : ρ (.tmp 22) = vs 17 := by rw [← hρ]; kernel_rfl
    rw [d22] at e22; clear d22
    have econ : ∀ v : Value, ρ (.const v) = v := fun v => by rw [← hρ]; rfl
    clear hρ hV
    have hh := HC2.out
    cases c1 <;> simp only [if_true, if_false, Bool.false_eq_true, Bool.true_and, Bool.false_and] at e22 hh <;> subst hh <;> refine runs_val (v := _) (w' := w) ?_ ⟨Below.refl _ _, rfl⟩ <;> go_simp
  case r1_1o19 =>
    intro vs w hb hV
    rw [if_pos (by first | kernel_rfl | rfl)]
    generalize hρ : rho _ _ _ vs = ρ
    have d23 : (vs 18) = .bool c2 := hV 18 (by first | kernel_rfl | rfl)
    have e23 : ρ (.tmp 23) = vs 18 := by rw [← hρ]; kernel_rfl
    clear hρ hV
    refine runs_val (v := vs 18) (w' := w) ?_ ⟨Below.refl _ _, d23⟩
    go_simp
  case r1_1o20 =>
    intro vs w hb hV
    cases c2 with
    | false => (rw [if_neg (fun h => absurd (show false = true from h) Bool.false_ne_true)]) <;> exact rfl
    | true =>
      rw [if_pos (by first | kernel_rfl | rfl)]
      generalize hρ : rho _ _ _ vs = ρ
      have e2 : ρ (.tmp 2) = .pointer (some ⟨gd, 0, none⟩) := by rw [← hρ]; kernel_rfl
      clear hρ hV
      refine runs_val (v := .pointer (some ⟨gd, 3, none⟩)) (w' := w) ?_ ⟨Below.refl _ _, rfl⟩
      go_simp <;> (first | exact IntWalk.u64_in _ (by omega) | exact IntWalk.u32_in _ (by omega) | exact IntWalk.u16_in _ (by omega) | exact IntWalk.u8_in _ (by omega) | exact IntWalk.i64_in _ (by omega) | skip)
  case r1_1o21 =>
    intro vs w hb hV
    cases c2 with
    | false => (rw [if_neg (fun h => absurd (show false = true from h) Bool.false_ne_true)]) <;> exact rfl
    | true =>
      rw [if_pos (by first | kernel_rfl | rfl)]
      generalize hρ : rho _ _ _ vs = ρ
      have d25 : (vs 20) = .pointer (some ⟨gd, 3, none⟩) := hV 20 (by first | kernel_rfl | rfl)
      have e25 : ρ (.tmp 25) = vs 20 := by rw [← hρ]; kernel_rfl
      rw [d25] at e25; clear d25
      clear hρ hV
      have c0 := blk_cell (HA.out w hb) 3
      refine runs_val (v := .int .u32 bt) (w' := w) ?_ ⟨Below.refl _ _, rfl⟩
      go_simp
  case r1_1o22 =>
    intro vs w hb hV
    cases c2 with
    | false => (rw [if_neg (fun h => absurd (show false = true from h) Bool.false_ne_true)]) <;> exact rfl
    | true =>
      rw [if_pos (by first | kernel_rfl | rfl)]
      generalize hρ : rho _ _ _ vs = ρ
      have e3 : ρ (.tmp 3) = .pointer (some ⟨gd + 1, 0, none⟩) := by rw [← hρ]; kernel_rfl
      clear hρ hV
      refine runs_val (v := .pointer (some ⟨gd + 1, 3, none⟩)) (w' := w) ?_ ⟨Below.refl _ _, rfl⟩
      go_simp <;> (first | exact IntWalk.u64_in _ (by omega) | exact IntWalk.u32_in _ (by omega) | exact IntWalk.u16_in _ (by omega) | exact IntWalk.u8_in _ (by omega) | exact IntWalk.i64_in _ (by omega) | skip)
  case r1_1o23 =>
    intro vs w hb hV
    cases c2 with
    | false => (rw [if_neg (fun h => absurd (show false = true from h) Bool.false_ne_true)]) <;> exact rfl
    | true =>
      rw [if_pos (by first | kernel_rfl | rfl)]
      generalize hρ : rho _ _ _ vs = ρ
      have d27 : (vs 22) = .pointer (some ⟨gd + 1, 3, none⟩) := hV 22 (by first | kernel_rfl | rfl)
      have e27 : ρ (.tmp 27) = vs 22 := by rw [← hρ]; kernel_rfl
      rw [d27] at e27; clear d27
      clear hρ hV
      have c0 := blk_cell (HB.out w hb) 3
      refine runs_val (v := .int .u32 bt') (w' := w) ?_ ⟨Below.refl _ _, rfl⟩
      go_simp
  case r1_1o24 =>
    intro vs w hb hV
    cases c2 with
    | false => (rw [if_neg (fun h => absurd (show false = true from h) Bool.false_ne_true)]) <;> exact rfl
    | true =>
      rw [if_pos (by first | kernel_rfl | rfl)]
      generalize hρ : rho _ _ _ vs = ρ
      have d26 : (vs 21) = .int .u32 bt := hV 21 (by first | kernel_rfl | rfl)
      have e26 : ρ (.tmp 26) = vs 21 := by rw [← hρ]; kernel_rfl
      rw [d26] at e26; clear d26
      have d28 : (vs 23) = .int .u32 bt' := hV 23 (by first | kernel_rfl | rfl)
      have e28 : ρ (.tmp 28) = vs 23 := by rw [← hρ]; kernel_rfl
      rw [d28] at e28; clear d28
      clear hρ hV
      have hh := HB3.out
      refine runs_val (v := .bool b3) (w' := w) ?_ ⟨Below.refl _ _, rfl⟩
      rw [← hh]
      go_simp
  case r1_1o25 =>
    intro vs w hb hV
    rw [if_pos (by first | kernel_rfl | rfl)]
    generalize hρ : rho _ _ _ vs = ρ
    have d24 : (vs 19) = .bool c2 := hV 19 (by first | kernel_rfl | rfl)
    have e24 : ρ (.tmp 24) = vs 19 := by rw [← hρ]; kernel_rfl
    rw [d24] at e24; clear d24
    have d29 : (vs 24) = (if c2 = true then .bool b3 else undef) := hV 24 (by first | kernel_rfl | rfl)
    have e29 : ρ (.tmp 29) = vs 24 := by rw [← hρ]; kernel_rfl
    rw [d29] at e29; clear d29
    have econ : ∀ v : Value, ρ (.const v) = v := fun v => by rw [← hρ]; rfl
    clear hρ hV
    have hh := HC3.out
    cases c2 <;> simp only [if_true, if_false, Bool.false_eq_true, Bool.true_and, Bool.false_and] at e29 hh <;> subst hh <;> refine runs_val (v := _) (w' := w) ?_ ⟨Below.refl _ _, rfl⟩ <;> go_simp
  case r1_1o26 =>
    intro vs w hb hV
    rw [if_pos (by first | kernel_rfl | rfl)]
    generalize hρ : rho _ _ _ vs = ρ
    have d30 : (vs 25) = .bool c3 := hV 25 (by first | kernel_rfl | rfl)
    have e30 : ρ (.tmp 30) = vs 25 := by rw [← hρ]; kernel_rfl
    clear hρ hV
    refine runs_val (v := vs 25) (w' := w) ?_ ⟨Below.refl _ _, d30⟩
    go_simp
  case r1_1o27 =>
    intro vs w hb hV
    cases c3 with
    | false => (rw [if_neg (fun h => absurd (show false = true from h) Bool.false_ne_true)]) <;> exact rfl
    | true =>
      rw [if_pos (by first | kernel_rfl | rfl)]
      generalize hρ : rho _ _ _ vs = ρ
      have e2 : ρ (.tmp 2) = .pointer (some ⟨gd, 0, none⟩) := by rw [← hρ]; kernel_rfl
      clear hρ hV
      exact runs_load 79 (.tmp 2) rfl gd e2 79 #[.int .u16 ep, .int .u16 sq, .int .u16 nx, .int .u32 bt, .bool fi, .bool la, .bool al, .slice A n c] (0, 0) _ (HA.out w hb) Try.underlying79 rfl (rframe_info _ _ _ _ _ _ _ _) ⟨Below.refl _ _, rfl⟩
  case r1_1o28 =>
    intro vs w hb hV
    cases c3 with
    | false => (rw [if_neg (fun h => absurd (show false = true from h) Bool.false_ne_true)]) <;> exact rfl
    | true =>
      rw [if_pos (by first | kernel_rfl | rfl)]
      generalize hρ : rho _ _ _ vs = ρ
      have d32 : (vs 27) = .agg #[.int .u16 ep, .int .u16 sq, .int .u16 nx, .int .u32 bt, .bool fi, .bool la, .bool al, .slice A n c] := hV 27 (by first | kernel_rfl | rfl)
      have e32 : ρ (.tmp 32) = vs 27 := by rw [← hρ]; kernel_rfl
      rw [d32] at e32; clear d32
      have ef67 : ρ (.func 67) = .func (.func 67) #[] #[] := by rw [← hρ]; rfl
      clear hρ hV
      refine runs_call (f := 67) (args := #[.agg #[.int .u16 ep, .int .u16 sq, .int .u16 nx, .int .u32 bt, .bool fi, .bool la, .bool al, .slice A n c]]) (w' := w) ?_ ?_
      · go_simp
      · refine (KF.out w (HBW.out w hb)).mono ?_
        rintro e w5 ⟨rfl, hb5⟩
        exact ⟨_, rfl, hb5, rfl⟩
  case r1_1o29 =>
    intro vs w hb hV
    cases c3 with
    | false => (rw [if_neg (fun h => absurd (show false = true from h) Bool.false_ne_true)]) <;> exact rfl
    | true =>
      rw [if_pos (by first | kernel_rfl | rfl)]
      generalize hρ : rho _ _ _ vs = ρ
      have e3 : ρ (.tmp 3) = .pointer (some ⟨gd + 1, 0, none⟩) := by rw [← hρ]; kernel_rfl
      clear hρ hV
      exact runs_load 79 (.tmp 3) rfl (gd + 1) e3 79 #[.int .u16 ep', .int .u16 sq', .int .u16 nx', .int .u32 bt', .bool fi', .bool la', .bool al', .slice A' n' c'] (0, 0) _ (HB.out w hb) Try.underlying79 rfl (rframe_info _ _ _ _ _ _ _ _) ⟨Below.refl _ _, rfl⟩
  case r1_1o30 =>
    intro vs w hb hV
    cases c3 with
    | false => (rw [if_neg (fun h => absurd (show false = true from h) Bool.false_ne_true)]) <;> exact rfl
    | true =>
      rw [if_pos (by first | kernel_rfl | rfl)]
      generalize hρ : rho _ _ _ vs = ρ
      have d34 : (vs 29) = .agg #[.int .u16 ep', .int .u16 sq', .int .u16 nx', .int .u32 bt', .bool fi', .bool la', .bool al', .slice A' n' c'] := hV 29 (by first | kernel_rfl | rfl)
      have e34 : ρ (.tmp 34) = vs 29 := by rw [← hρ]; kernel_rfl
      rw [d34] at e34; clear d34
      have ef67 : ρ (.func 67) = .func (.func 67) #[] #[] := by rw [← hρ]; rfl
      clear hρ hV
      refine runs_call (f := 67) (args := #[.agg #[.int .u16 ep', .int .u16 sq', .int .u16 nx', .int .u32 bt', .bool fi', .bool la', .bool al', .slice A' n' c']]) (w' := w) ?_ ?_
      · go_simp
      · refine (KG.out w (HBW.out w hb)).mono ?_
        rintro e w5 ⟨rfl, hb5⟩
        exact ⟨_, rfl, hb5, rfl⟩
  case r1_1o31 =>
    intro vs w hb hV
    cases c3 with
    | false => (rw [if_neg (fun h => absurd (show false = true from h) Bool.false_ne_true)]) <;> exact rfl
    | true =>
      rw [if_pos (by first | kernel_rfl | rfl)]
      generalize hρ : rho _ _ _ vs = ρ
      have d33 : (vs 28) = .int .u8 fl := hV 28 (by first | kernel_rfl | rfl)
      have e33 : ρ (.tmp 33) = vs 28 := by rw [← hρ]; kernel_rfl
      rw [d33] at e33; clear d33
      have d35 : (vs 30) = .int .u8 fl' := hV 30 (by first | kernel_rfl | rfl)
      have e35 : ρ (.tmp 35) = vs 30 := by rw [← hρ]; kernel_rfl
      rw [d35] at e35; clear d35
      clear hρ hV
      have hh := HB4.out
      refine runs_val (v := .bool b4) (w' := w) ?_ ⟨Below.refl _ _, rfl⟩
      rw [← hh]
      go_simp
  case r1_1o32 =>
    intro vs w hb hV
    rw [if_pos (by first | kernel_rfl | rfl)]
    generalize hρ : rho _ _ _ vs = ρ
    have d31 : (vs 26) = .bool c3 := hV 26 (by first | kernel_rfl | rfl)
    have e31 : ρ (.tmp 31) = vs 26 := by rw [← hρ]; kernel_rfl
    rw [d31] at e31; clear d31
    have d36 : (vs 31) = (if c3 = true then .bool b4 else undef) := hV 31 (by first | kernel_rfl | rfl)
    have e36 : ρ (.tmp 36) = vs 31 := by rw [← hρ]; kernel_rfl
    rw [d36] at e36; clear d36
    have econ : ∀ v : Value, ρ (.const v) = v := fun v => by rw [← hρ]; rfl
    clear hρ hV
    have hh := HC4.out
    cases c3 <;> simp only [if_true, if_false, Bool.false_eq_true, Bool.true_and, Bool.false_and] at e36 hh <;> subst hh <;> refine runs_val (v := _) (w' := w) ?_ ⟨Below.refl _ _, rfl⟩ <;> go_simp
  case r1_1o33 =>
    intro vs w hb hV
    rw [if_pos (by first | kernel_rfl | rfl)]
    generalize hρ : rho _ _ _ vs = ρ
    have d37 : (vs 32) = .bool c4 := hV 32 (by first | kernel_rfl | rfl)
    have e37 : ρ (.tmp 37) = vs 32 := by rw [← hρ]; kernel_rfl
    clear hρ hV
    refine runs_val (v := vs 32) (w' := w) ?_ ⟨Below.refl _ _, d37⟩
    go_simp
  case r1_1o34 =>
    intro vs w hb hV
    cases c4 with
    | false => (rw [if_neg (fun h => absurd (show false = true from h) Bool.false_ne_true)]) <;> exact rfl
    | true =>
      rw [if_pos (by first | kernel_rfl | rfl)]
      generalize hρ : rho _ _ _ vs = ρ
      have e2 : ρ (.tmp 2) = .pointer (some ⟨gd, 0, none⟩) := by rw [← hρ]; kernel_rfl
      clear hρ hV
      refine runs_val (v := .pointer (some ⟨gd, 7, none⟩)) (w' := w) ?_ ⟨Below.refl _ _, rfl⟩
      go_simp <;> (first | exact IntWalk.u64_in _ (by omega) | exact IntWalk.u32_in _ (by omega) | exact IntWalk.u16_in _ (by omega) | exact IntWalk.u8_in _ (by omega) | exact IntWalk.i64_in _ (by omega) | skip)
  case r1_1o35 =>
    intro vs w hb hV
    cases c4 with
    | false => (rw [if_neg (fun h => absurd (show false = true from h) Bool.false_ne_true)]) <;> exact rfl
    | true =>
      rw [if_pos (by first | kernel_rfl | rfl)]
      generalize hρ : rho _ _ _ vs = ρ
      have d39 : (vs 34) = .pointer (some ⟨gd, 7, none⟩) := hV 34 (by first | kernel_rfl | rfl)
      have e39 : ρ (.tmp 39) = vs 34 := by rw [← hρ]; kernel_rfl
      rw [d39] at e39; clear d39
      clear hρ hV
      have c0 := blk_cell (HA.out w hb) 7
      refine runs_val (v := .slice A n c) (w' := w) ?_ ⟨Below.refl _ _, rfl⟩
      go_simp
  case r1_1o36 =>
    intro vs w hb hV
    cases c4 with
    | false => (rw [if_neg (fun h => absurd (show false = true from h) Bool.false_ne_true)]) <;> exact rfl
    | true =>
      rw [if_pos (by first | kernel_rfl | rfl)]
      generalize hρ : rho _ _ _ vs = ρ
      have e3 : ρ (.tmp 3) = .pointer (some ⟨gd + 1, 0, none⟩) := by rw [← hρ]; kernel_rfl
      clear hρ hV
      refine runs_val (v := .pointer (some ⟨gd + 1, 7, none⟩)) (w' := w) ?_ ⟨Below.refl _ _, rfl⟩
      go_simp <;> (first | exact IntWalk.u64_in _ (by omega) | exact IntWalk.u32_in _ (by omega) | exact IntWalk.u16_in _ (by omega) | exact IntWalk.u8_in _ (by omega) | exact IntWalk.i64_in _ (by omega) | skip)
  case r1_1o37 =>
    intro vs w hb hV
    cases c4 with
    | false => (rw [if_neg (fun h => absurd (show false = true from h) Bool.false_ne_true)]) <;> exact rfl
    | true =>
      rw [if_pos (by first | kernel_rfl | rfl)]
      generalize hρ : rho _ _ _ vs = ρ
      have d41 : (vs 36) = .pointer (some ⟨gd + 1, 7, none⟩) := hV 36 (by first | kernel_rfl | rfl)
      have e41 : ρ (.tmp 41) = vs 36 := by rw [← hρ]; kernel_rfl
      rw [d41] at e41; clear d41
      clear hρ hV
      have c0 := blk_cell (HB.out w hb) 7
      refine runs_val (v := .slice A' n' c') (w' := w) ?_ ⟨Below.refl _ _, rfl⟩
      go_simp
  case r1_1o38 =>
    intro vs w hb hV
    cases c4 with
    | false => (rw [if_neg (fun h => absurd (show false = true from h) Bool.false_ne_true)]) <;> exact rfl
    | true =>
      rw [if_pos (by first | kernel_rfl | rfl)]
      generalize hρ : rho _ _ _ vs = ρ
      have d40 : (vs 35) = .slice A n c := hV 35 (by first | kernel_rfl | rfl)
      have e40 : ρ (.tmp 40) = vs 35 := by rw [← hρ]; kernel_rfl
      rw [d40] at e40; clear d40
      have d42 : (vs 37) = .slice A' n' c' := hV 37 (by first | kernel_rfl | rfl)
      have e42 : ρ (.tmp 42) = vs 37 := by rw [← hρ]; kernel_rfl
      rw [d42] at e42; clear d42
      have ef18 : ρ (.func 18) = .func (.func 18) #[] #[] := by rw [← hρ]; rfl
      clear hρ hV
      refine runs_call (f := 18) (args := #[.slice A n c, .slice A' n' c']) (w' := w) ?_ ?_
      · go_simp
      · refine (KE.out w (HBW.out w hb)).mono ?_
        rintro e w5 ⟨rfl, hb5⟩
        exact ⟨_, rfl, hb5, rfl⟩
  case r1_1o39 =>
    intro vs w hb hV
    rw [if_pos (by first | kernel_rfl | rfl)]
    generalize hρ : rho _ _ _ vs = ρ
    have d38 : (vs 33) = .bool c4 := hV 33 (by first | kernel_rfl | rfl)
    have e38 : ρ (.tmp 38) = vs 33 := by rw [← hρ]; kernel_rfl
    rw [d38] at e38; clear d38
    have d43 : (vs 38) = (if c4 = true then .bool γ else undef) := hV 38 (by first | kernel_rfl | rfl)
    have e43 : ρ (.tmp 43) = vs 38 := by rw [← hρ]; kernel_rfl
    rw [d43] at e43; clear d43
    have econ : ∀ v : Value, ρ (.const v) = v := fun v => by rw [← hρ]; rfl
    clear hρ hV
    have hh := HC5.out
    cases c4 <;> simp only [if_true, if_false, Bool.false_eq_true, Bool.true_and, Bool.false_and] at e43 hh <;> subst hh <;> refine runs_val (v := _) (w' := w) ?_ ⟨Below.refl _ _, rfl⟩ <;> go_simp
  case r1_1o40 =>
    intro vs w hb hV
    rw [if_pos (by first | kernel_rfl | rfl)]
    generalize hρ : rho _ _ _ vs = ρ
    have d44 : (vs 39) = .bool β := hV 39 (by first | kernel_rfl | rfl)
    have e44 : ρ (.tmp 44) = vs 39 := by rw [← hρ]; kernel_rfl
    clear hρ hV
    refine runs_val (v := vs 39) (w' := w) ?_ ⟨Below.refl _ _, d44⟩
    go_simp
  case r1_1e =>
    intro vs W2 hb2 hV
    have d5 : (vs 0) = .pointer (some ⟨gd, 0, none⟩) := hV 0 (Nat.le_of_ble_eq_true rfl)
    have d6 : (vs 1) = .int .u16 ep := hV 1 (Nat.le_of_ble_eq_true rfl)
    have d7 : (vs 2) = .pointer (some ⟨gd + 1, 0, none⟩) := hV 2 (Nat.le_of_ble_eq_true rfl)
    have d8 : (vs 3) = .int .u16 ep' := hV 3 (Nat.le_of_ble_eq_true rfl)
    have d9 : (vs 4) = .bool c0 := hV 4 (Nat.le_of_ble_eq_true rfl)
    have d10 : (vs 5) = .bool c0 := hV 5 (Nat.le_of_ble_eq_true rfl)
    have d16 : (vs 11) = .bool c1 := hV 11 (Nat.le_of_ble_eq_true rfl)
    have d17 : (vs 12) = .bool c1 := hV 12 (Nat.le_of_ble_eq_true rfl)
    have d23 : (vs 18) = .bool c2 := hV 18 (Nat.le_of_ble_eq_true rfl)
    have d24 : (vs 19) = .bool c2 := hV 19 (Nat.le_of_ble_eq_true rfl)
    have d30 : (vs 25) = .bool c3 := hV 25 (Nat.le_of_ble_eq_true rfl)
    have d31 : (vs 26) = .bool c3 := hV 26 (Nat.le_of_ble_eq_true rfl)
    have d37 : (vs 32) = .bool c4 := hV 32 (Nat.le_of_ble_eq_true rfl)
    have d38 : (vs 33) = .bool c4 := hV 33 (Nat.le_of_ble_eq_true rfl)
    have d44 : (vs 39) = .bool β := hV 39 (Nat.le_of_ble_eq_true rfl)
    have d4 : (vs 40) = .bool β := hV 40 (Nat.le_of_ble_eq_true rfl)
    clear hV
    simp only [putAll]
    rw [d5, d6, d7, d8, d9, d10, d16, d17, d23, d24, d30, d31, d37, d38, d44, d4]
    clear d5 d6 d7 d8 d9 d10 d16 d17 d23 d24 d30 d31 d37 d38 d44 d4
    generalize vs 6 = vN6
    generalize vs 7 = vN7
    generalize vs 8 = vN8
    generalize vs 9 = vN9
    generalize vs 10 = vN10
    generalize vs 13 = vN13
    generalize vs 14 = vN14
    generalize vs 15 = vN15
    generalize vs 16 = vN16
    generalize vs 17 = vN17
    generalize vs 20 = vN20
    generalize vs 21 = vN21
    generalize vs 22 = vN22
    generalize vs 23 = vN23
    generalize vs 24 = vN24
    generalize vs 27 = vN27
    generalize vs 28 = vN28
    generalize vs 29 = vN29
    generalize vs 30 = vN30
    generalize vs 31 = vN31
    generalize vs 34 = vN34
    generalize vs 35 = vN35
    generalize vs 36 = vN36
    generalize vs 37 = vN37
    generalize vs 38 = vN38
    clear vs
    simp only [Act.put, List.setIfInBounds_toArray, List.set_cons_zero, List.set_cons_succ]
    have HBF := Aside0.mk (HBW.out _ hb2)
    clear hb2
    go_wp2_with fail
    go_ret
    rw [HGD.out]
    exact ⟨rfl, HBF.out⟩
end Go.Proofs.Yticpjidcgaaldaa

namespace Go.Proofs.Yticpjidcgaaldaa
open Go.RowKit Go.Proofs.YticpjidcgaaldaaW.PrintWords Go.Proofs.YticpjidcgaaldaaW.PrintLast Go.Proofs.YticpjidcgaaldaaW.PrintMore
set_option linter.unusedVariables false
set_option linter.unusedSimpArgs false

set_option maxRecDepth 100000 in
set_option maxHeartbeats 16000000 in
theorem mlike_any (k t m tk hs k' t' m' tk' hs' : Int) (P P' : List Int) (R R' : List S59) (v u : Value) (w00 : World) (hv : MsC w00 k t m tk hs P R v) (hu : MsC w00 k' t' m' tk' hs' P' R' u) (hP : Bytes P) (hP' : Bytes P') (hn : R.length ≤ 1000000) (hn' : R'.length ≤ 1000000) (β : Bool) (hβ : β = true ↔ k = k' ∧ t = t' ∧ m = m' ∧ tk = tk' ∧ hs = hs' ∧ P = P' ∧ R = R') :
    Calls Try.prog 20 #[v, u] w00 fun e w' => e = .returned (.bool β) ∧ Below w00.heap.size w00 w' := by
  obtain ⟨A, c, A2, c2, rfl, h2, h3, h4, h5⟩ := hv
  obtain ⟨A', c', A2', c2', rfl, k2, k3, k4, k5⟩ := hu
  have HBE := Aside0.mk hβ
  have HF : Aside0 (∀ z, Below w00.heap.size w00 z → DvC z tk hs P R (.agg #[.int .u32 tk, .int .u32 hs, .slice A P.length c, .slice A2 R.length c2]) ∧ DvC z tk' hs' P' R' (.agg #[.int .u32 tk', .int .u32 hs', .slice A' P'.length c', .slice A2' R'.length c2'])) := ⟨fun z hb => ⟨⟨A, c, A2, c2, rfl, h2, h3, Kd.C_below h4 hb, Kd.C_below h5 hb⟩, ⟨A', c', A2', c2', rfl, k2, k3, Kd.C_below k4 hb, Kd.C_below k5 hb⟩⟩⟩
  have KD := Aside0.mk (fun (γ : Bool) (hγ : γ = true ↔ tk = tk' ∧ hs = hs' ∧ P = P' ∧ R = R') (z : World) (hz : Below w00.heap.size w00 z) => dsameG_any tk hs tk' hs' P P' R R' _ _ z (HF.out z hz).1 (HF.out z hz).2 hP hP' hn hn' γ hγ)
  have H0 := Aside0.mk (((Hp.start w00).alloc (.cells #[.int .u8 k, .int .u32 t, .int .u32 m, .int .u32 tk, .int .u32 hs, .slice A P.length c, .slice A2 R.length c2] 28)).allocAt (.cells #[.int .u8 k', .int .u32 t', .int .u32 m', .int .u32 tk', .int .u32 hs', .slice A' P'.length c', .slice A2' R'.length c2'] 28) (w00.heap.size + 1) (by simp))
  clear h2 h3 h4 h5 k2 k3 k4 k5 hn hn' hP hP' hβ
  obtain ⟨n, hn⟩ : ∃ n, P.length = n := ⟨_, rfl⟩
  obtain ⟨p, hp⟩ : ∃ p, R.length = p := ⟨_, rfl⟩
  obtain ⟨n', hn'⟩ : ∃ n, P'.length = n := ⟨_, rfl⟩
  obtain ⟨p', hp'⟩ : ∃ p, R'.length = p := ⟨_, rfl⟩
  rw [hn, hp, hn', hp'] at KD HF H0
  rw [hn, hp, hn', hp']
  clear hn hp hn' hp'
  go_enter Try.func20, Try.ntmps20
  go_upto_region 1 with fail
  generalize (w00.alloc (.cells #[.int .u8 k, .int .u32 t, .int .u32 m, .int .u32 tk, .int .u32 hs, .slice A n c, .slice A2 p c2] 28)).alloc (.cells #[.int .u8 k', .int .u32 t', .int .u32 m', .int .u32 tk', .int .u32 hs', .slice A' n' c', .slice A2' p' c2'] 28) = W at *
  obtain ⟨gd, hgd⟩ : ∃ gd, w00.heap.size = gd := ⟨_, rfl⟩
  rw [hgd] at H0 HF KD
  rw [hgd]
  have HGD := Aside0.mk hgd
  clear hgd
  have a0 := blk_cell (H0.out.get (i := 1) rfl) 0
  have a1 := blk_cell (H0.out.get (i := 1) rfl) 1
  have a2 := blk_cell (H0.out.get (i := 1) rfl) 2
  have a3 := blk_cell (H0.out.get (i := 1) rfl) 3
  have a4 := blk_cell (H0.out.get (i := 1) rfl) 4
  have a5 := blk_cell (H0.out.get (i := 1) rfl) 5
  have a6 := blk_cell (H0.out.get (i := 1) rfl) 6
  have b0 := blk_cell (H0.out.get (i := 0) rfl) 0
  have b1 := blk_cell (H0.out.get (i := 0) rfl) 1
  have b2 := blk_cell (H0.out.get (i := 0) rfl) 2
  have b3 := blk_cell (H0.out.get (i := 0) rfl) 3
  have b4 := blk_cell (H0.out.get (i := 0) rfl) 4
  have b5 := blk_cell (H0.out.get (i := 0) rfl) 5
  have b6 := blk_cell (H0.out.get (i := 0) rfl) 6
  by_cases e0 : k = k'
  · subst e0
    by_cases e1 : t = t'
    · subst e1
      by_cases e2 : m = m'
      · subst e2
        go_wp2_with fail
        refine (KD.out β ⟨fun h => (HBE.out.1 h).2.2.2, fun h => HBE.out.2 (by exact ⟨trivial, trivial, trivial, h⟩)⟩ W H0.out.bel).mono ?_
        rintro e w1 ⟨rfl, hb1⟩
        have H1 := Aside0.mk (H0.out.call hb1)
        clear a0 a1 a2 a3 a4 a5 a6 b0 b1 b2 b3 b4 b5 b6 hb1 H0
        go_wp2_with fail
        go_ret
        rw [HGD.out]
        exact ⟨rfl, H1.out.bel⟩
      · have HT : Aside0 (β = false) := ⟨by
          rw [Bool.eq_false_iff]
          intro e
          exact e2 (HBE.out.1 e).2.2.1⟩
        go_wp2_with fail
        go_ret
        rw [HGD.out, HT.out]
        exact ⟨rfl, H0.out.bel⟩
    · have HT : Aside0 (β = false) := ⟨by
        rw [Bool.eq_false_iff]
        intro e
        exact e1 (HBE.out.1 e).2.1⟩
      go_wp2_with fail
      go_ret
      rw [HGD.out, HT.out]
      exact ⟨rfl, H0.out.bel⟩
  · have HT : Aside0 (β = false) := ⟨by
      rw [Bool.eq_false_iff]
      intro e
      exact e0 (HBE.out.1 e).1⟩
    go_wp2_with fail
    go_ret
    rw [HGD.out, HT.out]
    exact ⟨rfl, H0.out.bel⟩
theorem Kd.C_any0 {α : Type} {d : Kd α} {w : World} {A : Option Addr} (h : d.C w A 0 []) (z : World) : d.C z A 0 [] := ⟨rfl, by simp, fun hn => absurd hn (by simp)⟩
theorem ex_bytes : mBytes 2 5 2 0 0 [] [] = [2, 5, 0, 0, 0, 2, 0, 0, 0] := by decide
theorem ex_read : readR [2, 5, 0, 0, 0, 2, 0, 0, 0] = ⟨true, 2, 5, 2, 0, 0, [], []⟩ := by rw [readR_two]; rfl
theorem ex_ok : OkM 2 5 2 0 0 [] [] := OkM_zero (by omega) (by omega) (by omega)
set_option maxRecDepth 100000 in
set_option maxHeartbeats 16000000 in
theorem awake11_any (w00 : World) : Calls Try.prog 10 #[] w00 fun e w' => e = .returned (.bool true) ∧ Below w00.heap.size w00 w' := by
  obtain ⟨B, hB⟩ : ∃ B, w00.heap.size = B := ⟨_, rfl⟩
  have H0 := Aside0.mk ((Hp.start w00).allocAt (.cells #[.int .u8 2, .int .u32 5, .int .u32 2, .int .u32 0, .int .u32 0, .slice none 0 0, .slice none 0 0] 28) B hB)
  rw [hB] at H0
  rw [hB]
  have HB := Aside0.mk hB
  have hz7 := zero_msg
  go_enter Try.func10, Try.ntmps10
  go_wp2_with (first | (refine wpList_load_row_g 28 (.tmp 1) rfl B rfl rfl 28 _ (0, 0) _ (H0.out.get (i := 0) rfl) Try.underlying28 rfl (msg_info _ _ _ _ _ _ _) ?_))
  refine (mbytes_any 2 5 2 0 0 [] [] _ _ (MsC_zero _ _ _ _) ex_ok).mono ?_
  rintro e w1 ⟨v1, rfl, hv1, hb1⟩
  rw [ex_bytes] at hv1
  have H1 := Aside0.mk (H0.out.row hb1 hv1)
  obtain ⟨A1, c1, rfl, hc1, _⟩ := Kd.R_reads hv1
  rw [show ([2, 5, 0, 0, 0, 2, 0, 0, 0] : List Int).length = 9 from rfl] at H1 hc1
  rw [show ([2, 5, 0, 0, 0, 2, 0, 0, 0] : List Int).length = 9 from rfl]
  clear hv1 hb1 H0
  go_wp2_with fail
  refine (mread_any A1 9 c1 [2, 5, 0, 0, 0, 2, 0, 0, 0] _ (Ru_C (H1.out.fact (i := 0) rfl)).2.2 hc1 (by omega) (by intro b hb; simp only [List.mem_cons, List.not_mem_nil, or_false] at hb; omega)).mono ?_
  rintro e w2 ⟨⟨v2, rfl, hv2⟩, hb2⟩
  rw [ex_read] at hv2 ⊢
  simp only at hv2
  obtain ⟨A2, c2, A3, c3, rfl, h2, h3, h4, h5⟩ := hv2
  obtain ⟨g2, hg2⟩ : ∃ g2, w2.heap.size = g2 := ⟨_, rfl⟩
  have H2 := Aside0.mk ((H1.out.call hb2).allocAt (.cells #[.int .u8 2, .int .u32 5, .int .u32 2, .int .u32 0, .int .u32 0, .slice A2 0 c2, .slice A3 0 c3] 28) g2 hg2)
  have HV : Aside0 (∀ z, MsC z 2 5 2 0 0 [] [] (.agg #[.int .u8 2, .int .u32 5, .int .u32 2, .int .u32 0, .int .u32 0, .slice A2 0 c2, .slice A3 0 c3])) := ⟨fun z => ⟨A2, c2, A3, c3, rfl, Nat.zero_le _, Nat.zero_le _, Kd.C_any0 h4 z, Kd.C_any0 h5 z⟩⟩
  clear hb2 h2 h3 h4 h5 H1 hc1
  rw [show ([] : List Int).length = 0 from rfl, show ([] : List S59).length = 0 from rfl]
  go_wp2_with (first | (refine wpList_load_row_g 28 (.tmp 1) rfl B rfl rfl 28 _ (0, 0) _ (H2.out.get (i := 1) rfl) Try.underlying28 rfl (msg_info _ _ _ _ _ _ _) ?_))
  generalize w2.alloc (.cells #[.int .u8 2, .int .u32 5, .int .u32 2, .int .u32 0, .int .u32 0, .slice A2 0 c2, .slice A3 0 c3] 28) = W at *
  clear hg2
  refine (mbytes_any 2 5 2 0 0 [] [] _ _ (MsC_zero _ _ _ _) ex_ok).mono ?_
  rintro e w3 ⟨v3, rfl, hv3, hb3⟩
  rw [ex_bytes] at hv3
  have H3 := Aside0.mk (H2.out.call hb3)
  obtain ⟨A4, c4, rfl, hc4, _⟩ := Kd.R_reads hv3
  rw [show ([2, 5, 0, 0, 0, 2, 0, 0, 0] : List Int).length = 9 from rfl]
  clear hv3 hb3 H2 hc4
  go_wp2_with (first | (refine wpList_load_row_g 28 (.tmp 1) rfl B rfl rfl 28 _ (0, 0) _ (H3.out.get (i := 1) rfl) Try.underlying28 rfl (msg_info _ _ _ _ _ _ _) ?_) | (refine wpList_load_row_g 28 (.tmp 2) rfl g2 rfl rfl 28 _ (0, 0) _ (H3.out.get (i := 0) rfl) Try.underlying28 rfl (msg_info _ _ _ _ _ _ _) ?_))
  refine (mlike_any 2 5 2 0 0 2 5 2 0 0 [] [] [] [] _ _ _ (HV.out _) (MsC_zero _ _ _ _) Bytes.nil Bytes.nil (by simp) (by simp) true (by simp)).mono ?_
  rintro e w4 ⟨rfl, hb4⟩
  have H4 := Aside0.mk (H3.out.call hb4)
  clear hb4 H3
  go_wp2_with fail
  go_ret
  exact ⟨rfl, H4.out.bel⟩
end Go.Proofs.Yticpjidcgaaldaa

namespace Go.Proofs.Yticpjidcgaaldaa
open Go.RowKit Go.Proofs.YticpjidcgaaldaaW.PrintWords Go.Proofs.YticpjidcgaaldaaW.PrintLast Go.Proofs.YticpjidcgaaldaaW.PrintMore
set_option linter.unusedVariables false
set_option linter.unusedSimpArgs false

theorem rows_at {w : World} {g n e : Nat} {xs : List (List Int)} (h : (Kd.slice e (Kd.int .u8)).C w (some ⟨g, 0, none⟩) n xs) (j : Nat) (hj : j < xs.length) : ∃ A c, w.cell? ⟨g, j, none⟩ = some (.slice A xs[j].length c) ∧ xs[j].length ≤ c ∧ (Kd.int .u8).C w A xs[j].length xs[j] := by
  have hn := h.1
  obtain ⟨ad, cs, e1, _, hK, hc⟩ := Kd.C_get h ([] : List Int) (j : Int) (by omega) (by omega)
  rw [Int.toNat_natCast, List.getD_eq_getElem?_getD, List.getElem?_eq_getElem hj] at hK
  obtain ⟨A, c, rfl, h1, h2⟩ := hK
  have := hc 0 _ rfl
  obtain rfl := Option.some.inj e1
  refine ⟨A, c, ?_, h1, h2⟩
  have hz : (Kd.slice e (Kd.int .u8)).sz = 1 := rfl
  rw [hz, Nat.mul_one, Nat.add_zero, add_plain] at this
  exact this
theorem C_of_four {α : Type} {d : Kd α} {e : Nat} {w : World} {g : Nat} {t : TypeId} {fr : Nat × Nat} {A B D E : Option Addr} {n m p q c c' c'' c3 : Nat} {x y z u : List α} (hg : w.heap[g]? = some (.cells #[.slice A n c, .slice B m c', .slice D p c'', .slice E q c3] t fr))
    (hx : d.C w A n x) (hc : n ≤ c) (hy : d.C w B m y) (hc' : m ≤ c') (hz : d.C w D p z) (hc'' : p ≤ c'') (hu : d.C w E q u) (hc3 : q ≤ c3) : (Kd.slice e d).C w (some ⟨g, 0, none⟩) 4 [x, y, z, u] := by
  obtain rfl := hx.1
  obtain rfl := hy.1
  obtain rfl := hz.1
  obtain rfl := hu.1
  refine C_of_rows hg rfl (by omega) fun j p hj => ?_
  match j with
  | 0 => obtain rfl : x = p := by simpa using hj
         exact ⟨A, c, rfl, hc, hx⟩
  | 1 => obtain rfl : y = p := by simpa using hj
         exact ⟨B, c', rfl, hc', hy⟩
  | 2 => obtain rfl : z = p := by simpa using hj
         exact ⟨D, c'', rfl, hc'', hz⟩
  | 3 => obtain rfl : u = p := by simpa using hj
         exact ⟨E, c3, rfl, hc3, hu⟩
  | j + 4 => simp at hj
theorem sealL_bytes {l : List Int} (h : Bytes l) : Bytes (sealL l) := by
  unfold sealL
  exact h.append (tailL_bytes _ (sumN_lt (l := l)))
theorem fBytes_len_le (ep sq nx bt : Nat) (fi la al : Bool) (D : List Int) : D.length ≤ (fBytes ep sq nx bt fi la al D).length ∨ rightF sq D.length fi la al = false := by
  cases h : rightF sq D.length fi la al with
  | false => exact .inr rfl
  | true => left; rw [fBytes_len h]; omega
theorem parseF_len (q : List Int) : (parseF q).D.length ≤ q.length := by
  unfold parseF
  split
  · exact Nat.zero_le _
  · split
    · exact Nat.zero_le _
    · simp only []
      split
      · rename_i h
        unfold ERes.good at h
        simp only [Bool.and_eq_true, decide_eq_true_eq] at h
        have h1 := h.2.2.2
        have h2 := h.2.2.1
        rcases fBytes_len_le (eyeF (q.take (q.length - 4))).ep.toNat (eyeF (q.take (q.length - 4))).sq.toNat (eyeF (q.take (q.length - 4))).nx.toNat (eyeF (q.take (q.length - 4))).bt.toNat (b1F (eyeF (q.take (q.length - 4))).fl) (b2F (eyeF (q.take (q.length - 4))).fl) (b4F (eyeF (q.take (q.length - 4))).fl) (eyeF (q.take (q.length - 4))).D with h3 | h3
        · rw [h1] at h3; exact h3
        · exfalso
          rw [fBytes_no h3] at h1
          rename_i hlen _
          rw [← h1] at hlen
          simp at hlen
      · exact Nat.zero_le _
set_option maxRecDepth 100000 in
set_option maxHeartbeats 32000000 in
theorem fforms_walk (x : S72) (cs : List Value) (A : Option Addr) (n c : Nat) (l : List Int) (a0 t0 : Int) (md : Bool) (y : S72) (ys : List Value) (w00 : World) (hK : k72.K w00 x cs) (hx : OkFr x) (hr : (Kd.int .u8).C w00 A n l) (hc : n ≤ c) (hl : Bytes l) (hA : 0 ≤ a0 ∧ a0 ≤ 65535) (hT : 0 ≤ t0 ∧ t0 ≤ 255) (hK2 : k72.K w00 y ys) (hy : OkFr y) :
    Calls Try.prog 7 #[.agg cs.toArray, .slice A n c, .int .u16 a0, .int .u8 t0, .bool md, .agg ys.toArray] w00 fun e w' => e = .returned (.bool true) ∧ Below w00.heap.size w00 w' := by
  obtain ⟨f0, f1, ⟨f2, f2b⟩, fi, la, al, D0⟩ := x
  have hD0 := frame_in hK
  obtain ⟨k0, k1, ⟨k2, k3⟩, _, _, _, kA⟩ := hx
  have b0 := bounds_u16 k0
  have b1 := bounds_u16 k1
  have b2 := bounds_u16 k2
  have b3 := bounds_u32 k3
  simp only at hD0 b0 b1 b2 b3 kA
  obtain ⟨ep, rfl⟩ : ∃ x : Nat, f0 = (x : Int) := ⟨f0.toNat, by omega⟩
  obtain ⟨sq, rfl⟩ : ∃ x : Nat, f1 = (x : Int) := ⟨f1.toNat, by omega⟩
  obtain ⟨nx, rfl⟩ : ∃ x : Nat, f2 = (x : Int) := ⟨f2.toNat, by omega⟩
  obtain ⟨bt, rfl⟩ : ∃ x : Nat, f2b = (x : Int) := ⟨f2b.toNat, by omega⟩
  have HE : Aside0 (ep < 65536 ∧ sq < 65536 ∧ nx < 65536 ∧ bt < 4294967296) := ⟨by omega⟩
  clear b0 b1 b2 b3 k0 k1 k2 k3 hK
  obtain ⟨f0, f1, ⟨f2, f2b⟩, fi', la', al', D1⟩ := y
  have hD1 := frame_in hK2
  obtain ⟨k0, k1, ⟨k2, k3⟩, _, _, _, kB⟩ := hy
  have b0 := bounds_u16 k0
  have b1 := bounds_u16 k1
  have b2 := bounds_u16 k2
  have b3 := bounds_u32 k3
  simp only at hD1 b0 b1 b2 b3 kB
  obtain ⟨ep', rfl⟩ : ∃ x : Nat, f0 = (x : Int) := ⟨f0.toNat, by omega⟩
  obtain ⟨sq', rfl⟩ : ∃ x : Nat, f1 = (x : Int) := ⟨f1.toNat, by omega⟩
  obtain ⟨nx', rfl⟩ : ∃ x : Nat, f2 = (x : Int) := ⟨f2.toNat, by omega⟩
  obtain ⟨bt', rfl⟩ : ∃ x : Nat, f2b = (x : Int) := ⟨f2b.toNat, by omega⟩
  have HE' : Aside0 (ep' < 65536 ∧ sq' < 65536 ∧ nx' < 65536 ∧ bt' < 4294967296) := ⟨by omega⟩
  clear b0 b1 b2 b3 k0 k1 k2 k3 hK2
  obtain ⟨B, hB⟩ : ∃ B, w00.heap.size = B := ⟨_, rfl⟩
  obtain ⟨A1, c1, he1, hc1, hC1⟩ := hD0
  obtain ⟨A2, c2, he2, hc2, hC2⟩ := hD1
  obtain ⟨n1, hn1⟩ : ∃ n, D0.length = n := ⟨_, rfl⟩
  obtain ⟨n2, hn2⟩ : ∃ n, D1.length = n := ⟨_, rfl⟩
  rw [hn1] at he1 hc1 hC1
  rw [hn2] at he2 hc2 hC2
  have HF : Aside0 (∀ z, Below B w00 z → (Kd.int .u8).C z A1 n1 D0 ∧ (Kd.int .u8).C z A2 n2 D1 ∧ (Kd.int .u8).C z A n l) := ⟨fun z hz => ⟨Kd.C_below hC1 (hB ▸ hz), Kd.C_below hC2 (hB ▸ hz), Kd.C_below hr (hB ▸ hz)⟩⟩
  rw [he1, he2]
  obtain ⟨gb, hgb⟩ : ∃ g, B + 1 = g := ⟨_, rfl⟩
  have H0 := Aside0.mk (((Hp.start w00).allocAt (.cells #[.int .u16 ep, .int .u16 sq, .int .u16 nx, .int .u32 bt, .bool fi, .bool la, .bool al, .slice A1 n1 c1] 72) B hB).allocAt (.cells #[.int .u16 ep', .int .u16 sq', .int .u16 nx', .int .u32 bt', .bool fi', .bool la', .bool al', .slice A2 n2 c2] 72) gb (by rw [← hgb, ← hB]; simp))
  rw [hB] at H0
  rw [hB]
  obtain ⟨D, hDD⟩ : ∃ D, D0.take 80 = D := ⟨_, rfl⟩
  obtain ⟨D', hDD'⟩ : ∃ D, D1.take 80 = D := ⟨_, rfl⟩
  obtain ⟨Q, hQ⟩ : ∃ Q, l.take 60 = Q := ⟨_, rfl⟩
  have HDB : Aside0 (Bytes D ∧ Bytes D' ∧ Bytes Q) := ⟨(fun b hb => by rw [← hDD] at hb; have := bounds_u8 (kA b (List.mem_of_mem_take hb)); omega), (fun b hb => by rw [← hDD'] at hb; have := bounds_u8 (kB b (List.mem_of_mem_take hb)); omega), by rw [← hQ]; exact hl.take 60⟩
  have HDL : Aside0 (D.length ≤ 80 ∧ D'.length ≤ 80 ∧ Q.length ≤ 60) := ⟨by rw [← hDD]; exact List.length_take_le _ _, by rw [← hDD']; exact List.length_take_le _ _, by rw [← hQ]; exact List.length_take_le _ _⟩
  have KC1 := Aside0.mk (fun (z : World) (h : (Kd.int .u8).C z A1 n1 D0) => cut_any A1 n1 c1 D0 80 z h hc1 (by omega))
  have KC2 := Aside0.mk (fun (z : World) (h : (Kd.int .u8).C z A2 n2 D1) => cut_any A2 n2 c2 D1 80 z h hc2 (by omega))
  have KC3 := Aside0.mk (fun (z : World) (h : (Kd.int .u8).C z A n l) => cut_any A n c l 60 z h hc (by omega))
  rw [show (80 : Int).toNat = 80 from rfl, hDD] at KC1
  rw [show (80 : Int).toNat = 80 from rfl, hDD'] at KC2
  rw [show (60 : Int).toNat = 60 from rfl, hQ] at KC3
  obtain ⟨a, rfl⟩ : ∃ x : Nat, a0 = (x : Int) := ⟨a0.toNat, by omega⟩
  obtain ⟨tn, rfl⟩ : ∃ x : Nat, t0 = (x : Int) := ⟨t0.toNat, by omega⟩
  have HAT : Aside0 (a ≤ 65535 ∧ tn ≤ 255) := ⟨by omega, by omega⟩
  have HBB := Aside0.mk hB
  clear kA kB he1 he2 hc1 hc2 hC1 hC2 hn1 hn2 hDD hDD' hQ hA hT hr hc hl
  go_enter Try.func7, Try.ntmps7
  go_wp2_with fail
  refine (awake11_any _).mono ?_
  rintro e w1 ⟨rfl, hb1⟩
  have H1 := Aside0.mk (H0.out.call hb1)
  clear hb1 H0 hgb
  go_wp2_with fail
  refine regionS (W := w1)
    [fun _ v => v = .pointer (some ⟨B, 7, none⟩),
     fun _ v => v = .slice A1 n1 c1,
     fun _ _ => True,
     fun _ v => v = .pointer (some ⟨gb, 7, none⟩),
     fun _ v => v = .slice A2 n2 c2,
     fun _ _ => True,
     fun _ v => v = .slice A n c,
     fun _ _ => True,
     fun _ v => v = .pointer (some ⟨B, 7, none⟩),
     fun _ _ => True,
     fun _ v => v = .pointer (some ⟨gb, 7, none⟩),
     fun _ _ => True,
     fun _ _ => True]
    [2, 5, 7, 9, 11, 12]
    (fun t => match t with | 0 => fun (rs : List Value) (w : World) => Hp B w00 w [(gb, .cells #[.int .u16 ep', .int .u16 sq', .int .u16 nx', .int .u32 bt', .bool fi', .bool la', .bool al', .slice A2 n2 c2] 72 (0, 0)), (B, .cells #[.int .u16 ep, .int .u16 sq, .int .u16 nx, .int .u32 bt, .bool fi, .bool la, .bool al, .slice A1 n1 c1] 72 (0, 0))] [] | 1 => fun (rs : List Value) (w : World) => Hp B w00 w [(gb, .cells #[.int .u16 ep', .int .u16 sq', .int .u16 nx', .int .u32 bt', .bool fi', .bool la', .bool al', .slice A2 n2 c2] 72 (0, 0)), (B, .cells #[.int .u16 ep, .int .u16 sq, .int .u16 nx, .int .u32 bt, .bool fi, .bool la, .bool al, .slice A1 n1 c1] 72 (0, 0))] [fun w => (Kd.int .u8).R 5 w B (fun _ => True) ((rs.getD 0 undef)) D] | 2 => fun (rs : List Value) (w : World) => Hp B w00 w [(gb, .cells #[.int .u16 ep', .int .u16 sq', .int .u16 nx', .int .u32 bt', .bool fi', .bool la', .bool al', .slice A2 n2 c2] 72 (0, 0)), (B, .cells #[.int .u16 ep, .int .u16 sq, .int .u16 nx, .int .u32 bt, .bool fi, .bool la, .bool al, .slice A1 n1 c1] 72 (0, 0))] [fun w => (Kd.int .u8).R 5 w B (fun _ => True) ((rs.getD 1 undef)) D', fun w => (Kd.int .u8).R 5 w B (fun _ => True) ((rs.getD 0 undef)) D] | 3 => fun (rs : List Value) (w : World) => Hp B w00 w [(gb, .cells #[.int .u16 ep', .int .u16 sq', .int .u16 nx', .int .u32 bt', .bool fi', .bool la', .bool al', .slice A2 n2 c2] 72 (0, 0)), (B, .cells #[.int .u16 ep, .int .u16 sq, .int .u16 nx, .int .u32 bt, .bool fi, .bool la, .bool al, .slice A1 n1 c1] 72 (0, 0))] [fun w => (Kd.int .u8).R 5 w B (fun _ => True) ((rs.getD 2 undef)) Q, fun w => (Kd.int .u8).R 5 w B (fun _ => True) ((rs.getD 1 undef)) D', fun w => (Kd.int .u8).R 5 w B (fun _ => True) ((rs.getD 0 undef)) D] | 4 => fun (rs : List Value) (w : World) => Hp B w00 w [(gb, .cells #[.int .u16 ep', .int .u16 sq', .int .u16 nx', .int .u32 bt', .bool fi', .bool la', .bool al', .slice A2 n2 c2] 72 (0, 0)), (B, .cells #[.int .u16 ep, .int .u16 sq, .int .u16 nx, .int .u32 bt, .bool fi, .bool la, .bool al, (rs.getD 0 undef)] 72 (0, 0))] [fun w => (Kd.int .u8).R 5 w B (fun _ => True) ((rs.getD 2 undef)) Q, fun w => (Kd.int .u8).R 5 w B (fun _ => True) ((rs.getD 1 undef)) D', fun w => (Kd.int .u8).R 5 w B (fun _ => True) ((rs.getD 0 undef)) D] | 5 => fun (rs : List Value) (w : World) => Hp B w00 w [(gb, .cells #[.int .u16 ep', .int .u16 sq', .int .u16 nx', .int .u32 bt', .bool fi', .bool la', .bool al', (rs.getD 1 undef)] 72 (0, 0)), (B, .cells #[.int .u16 ep, .int .u16 sq, .int .u16 nx, .int .u32 bt, .bool fi, .bool la, .bool al, (rs.getD 0 undef)] 72 (0, 0))] [fun w => (Kd.int .u8).R 5 w B (fun _ => True) ((rs.getD 2 undef)) Q, fun w => (Kd.int .u8).R 5 w B (fun _ => True) ((rs.getD 1 undef)) D', fun w => (Kd.int .u8).R 5 w B (fun _ => True) ((rs.getD 0 undef)) D] | 6 => fun (rs : List Value) (w : World) => Hp B w00 w [(gb, .cells #[.int .u16 ep', .int .u16 sq', .int .u16 nx', .int .u32 bt', .bool fi', .bool la', .bool al', (rs.getD 1 undef)] 72 (0, 0)), (B, .cells #[.int .u16 ep, .int .u16 sq, .int .u16 nx, .int .u32 bt, .bool fi, .bool la, .bool al, (rs.getD 0 undef)] 72 (0, 0))] [fun w => (Kd.int .u8).R 5 w B (fun _ => True) ((rs.getD 5 undef)) Q, fun w => (Kd.int .u8).R 5 w B (fun _ => True) ((rs.getD 1 undef)) D', fun w => (Kd.int .u8).R 5 w B (fun _ => True) ((rs.getD 0 undef)) D] | _ => fun _ _ => False)
    (fun _ _ _ => True) (fun w => Below B w00 w ∧ B ≤ w.heap.size)
    (fun j =>  none)
    [(0, some 25), (1, some 26), (2, some 27), (3, some 28), (4, some 29), (5, some 30), (6, some 31), (7, some 32), (8, some 33), (9, none), (10, some 34), (11, none), (12, some 1)]
    []
    (by kernel_rfl) (by kernel_rfl) (by kernel_rfl) (by kernel_rfl) (by kernel_rfl) ?z3_1c ?z3_1i ?z3_1b ?z3_1d ?z3_1g ⟨?z3_1t0, ?z3_1t1, ?z3_1t2, ?z3_1t3, ?z3_1t4, ?z3_1t5, ?z3_1t6, ?z3_1t7, ?z3_1t8, ?z3_1t9, ?z3_1t10, ?z3_1t11, ?z3_1t12, trivial⟩ ⟨?z3_1o0, ?z3_1o1, ?z3_1o2, ?z3_1o3, ?z3_1o4, ?z3_1o5, ?z3_1o6, ?z3_1o7, ?z3_1o8, ?z3_1o9, ?z3_1o10, ?z3_1o11, ?z3_1o12, trivial⟩ ?z3_1e
  case z3_1c => exact ⟨H1.out.drew.bel, H1.out.drew.le⟩
  case z3_1i => exact H1.out.drew
  case z3_1b => intro w w' hb h; exact ⟨h.1.trans (hb.mono h.2), Nat.le_trans h.2 hb.size⟩
  case z3_1d =>
    intro t rs w w' hb h
    match t, h with
    | 0, h => (replace h : Hp B w00 w [(gb, .cells #[.int .u16 ep', .int .u16 sq', .int .u16 nx', .int .u32 bt', .bool fi', .bool la', .bool al', .slice A2 n2 c2] 72 (0, 0)), (B, .cells #[.int .u16 ep, .int .u16 sq, .int .u16 nx, .int .u32 bt, .bool fi, .bool la, .bool al, .slice A1 n1 c1] 72 (0, 0))] [] := h); show Hp B w00 w' [(gb, .cells #[.int .u16 ep', .int .u16 sq', .int .u16 nx', .int .u32 bt', .bool fi', .bool la', .bool al', .slice A2 n2 c2] 72 (0, 0)), (B, .cells #[.int .u16 ep, .int .u16 sq, .int .u16 nx, .int .u32 bt, .bool fi, .bool la, .bool al, .slice A1 n1 c1] 72 (0, 0))] []; exact h.call hb
    | 1, h => (replace h : Hp B w00 w [(gb, .cells #[.int .u16 ep', .int .u16 sq', .int .u16 nx', .int .u32 bt', .bool fi', .bool la', .bool al', .slice A2 n2 c2] 72 (0, 0)), (B, .cells #[.int .u16 ep, .int .u16 sq, .int .u16 nx, .int .u32 bt, .bool fi, .bool la, .bool al, .slice A1 n1 c1] 72 (0, 0))] [fun w => (Kd.int .u8).R 5 w B (fun _ => True) ((rs.getD 0 undef)) D] := h); show Hp B w00 w' [(gb, .cells #[.int .u16 ep', .int .u16 sq', .int .u16 nx', .int .u32 bt', .bool fi', .bool la', .bool al', .slice A2 n2 c2] 72 (0, 0)), (B, .cells #[.int .u16 ep, .int .u16 sq, .int .u16 nx, .int .u32 bt, .bool fi, .bool la, .bool al, .slice A1 n1 c1] 72 (0, 0))] [fun w' => (Kd.int .u8).R 5 w' B (fun _ => True) ((rs.getD 0 undef)) D]; exact h.call hb
    | 2, h => (replace h : Hp B w00 w [(gb, .cells #[.int .u16 ep', .int .u16 sq', .int .u16 nx', .int .u32 bt', .bool fi', .bool la', .bool al', .slice A2 n2 c2] 72 (0, 0)), (B, .cells #[.int .u16 ep, .int .u16 sq, .int .u16 nx, .int .u32 bt, .bool fi, .bool la, .bool al, .slice A1 n1 c1] 72 (0, 0))] [fun w => (Kd.int .u8).R 5 w B (fun _ => True) ((rs.getD 1 undef)) D', fun w => (Kd.int .u8).R 5 w B (fun _ => True) ((rs.getD 0 undef)) D] := h); show Hp B w00 w' [(gb, .cells #[.int .u16 ep', .int .u16 sq', .int .u16 nx', .int .u32 bt', .bool fi', .bool la', .bool al', .slice A2 n2 c2] 72 (0, 0)), (B, .cells #[.int .u16 ep, .int .u16 sq, .int .u16 nx, .int .u32 bt, .bool fi, .bool la, .bool al, .slice A1 n1 c1] 72 (0, 0))] [fun w' => (Kd.int .u8).R 5 w' B (fun _ => True) ((rs.getD 1 undef)) D', fun w' => (Kd.int .u8).R 5 w' B (fun _ => True) ((rs.getD 0 undef)) D]; exact h.call hb
    | 3, h => (replace h : Hp B w00 w [(gb, .cells #[.int .u16 ep', .int .u16 sq', .int .u16 nx', .int .u32 bt', .bool fi', .bool la', .bool al', .slice A2 n2 c2] 72 (0, 0)), (B, .cells #[.int .u16 ep, .int .u16 sq, .int .u16 nx, .int .u32 bt, .bool fi, .bool la, .bool al, .slice A1 n1 c1] 72 (0, 0))] [fun w => (Kd.int .u8).R 5 w B (fun _ => True) ((rs.getD 2 undef)) Q, fun w => (Kd.int .u8).R 5 w B (fun _ => True) ((rs.getD 1 undef)) D', fun w => (Kd.int .u8).R 5 w B (fun _ => True) ((rs.getD 0 undef)) D] := h); show Hp B w00 w' [(gb, .cells #[.int .u16 ep', .int .u16 sq', .int .u16 nx', .int .u32 bt', .bool fi', .bool la', .bool al', .slice A2 n2 c2] 72 (0, 0)), (B, .cells #[.int .u16 ep, .int .u16 sq, .int .u16 nx, .int .u32 bt, .bool fi, .bool la, .bool al, .slice A1 n1 c1] 72 (0, 0))] [fun w' => (Kd.int .u8).R 5 w' B (fun _ => True) ((rs.getD 2 undef)) Q, fun w' => (Kd.int .u8).R 5 w' B (fun _ => True) ((rs.getD 1 undef)) D', fun w' => (Kd.int .u8).R 5 w' B (fun _ => True) ((rs.getD 0 undef)) D]; exact h.call hb
    | 4, h => (replace h : Hp B w00 w [(gb, .cells #[.int .u16 ep', .int .u16 sq', .int .u16 nx', .int .u32 bt', .bool fi', .bool la', .bool al', .slice A2 n2 c2] 72 (0, 0)), (B, .cells #[.int .u16 ep, .int .u16 sq, .int .u16 nx, .int .u32 bt, .bool fi, .bool la, .bool al, (rs.getD 0 undef)] 72 (0, 0))] [fun w => (Kd.int .u8).R 5 w B (fun _ => True) ((rs.getD 2 undef)) Q, fun w => (Kd.int .u8).R 5 w B (fun _ => True) ((rs.getD 1 undef)) D', fun w => (Kd.int .u8).R 5 w B (fun _ => True) ((rs.getD 0 undef)) D] := h); show Hp B w00 w' [(gb, .cells #[.int .u16 ep', .int .u16 sq', .int .u16 nx', .int .u32 bt', .bool fi', .bool la', .bool al', .slice A2 n2 c2] 72 (0, 0)), (B, .cells #[.int .u16 ep, .int .u16 sq, .int .u16 nx, .int .u32 bt, .bool fi, .bool la, .bool al, (rs.getD 0 undef)] 72 (0, 0))] [fun w' => (Kd.int .u8).R 5 w' B (fun _ => True) ((rs.getD 2 undef)) Q, fun w' => (Kd.int .u8).R 5 w' B (fun _ => True) ((rs.getD 1 undef)) D', fun w' => (Kd.int .u8).R 5 w' B (fun _ => True) ((rs.getD 0 undef)) D]; exact h.call hb
    | 5, h => (replace h : Hp B w00 w [(gb, .cells #[.int .u16 ep', .int .u16 sq', .int .u16 nx', .int .u32 bt', .bool fi', .bool la', .bool al', (rs.getD 1 undef)] 72 (0, 0)), (B, .cells #[.int .u16 ep, .int .u16 sq, .int .u16 nx, .int .u32 bt, .bool fi, .bool la, .bool al, (rs.getD 0 undef)] 72 (0, 0))] [fun w => (Kd.int .u8).R 5 w B (fun _ => True) ((rs.getD 2 undef)) Q, fun w => (Kd.int .u8).R 5 w B (fun _ => True) ((rs.getD 1 undef)) D', fun w => (Kd.int .u8).R 5 w B (fun _ => True) ((rs.getD 0 undef)) D] := h); show Hp B w00 w' [(gb, .cells #[.int .u16 ep', .int .u16 sq', .int .u16 nx', .int .u32 bt', .bool fi', .bool la', .bool al', (rs.getD 1 undef)] 72 (0, 0)), (B, .cells #[.int .u16 ep, .int .u16 sq, .int .u16 nx, .int .u32 bt, .bool fi, .bool la, .bool al, (rs.getD 0 undef)] 72 (0, 0))] [fun w' => (Kd.int .u8).R 5 w' B (fun _ => True) ((rs.getD 2 undef)) Q, fun w' => (Kd.int .u8).R 5 w' B (fun _ => True) ((rs.getD 1 undef)) D', fun w' => (Kd.int .u8).R 5 w' B (fun _ => True) ((rs.getD 0 undef)) D]; exact h.call hb
    | 6, h => (replace h : Hp B w00 w [(gb, .cells #[.int .u16 ep', .int .u16 sq', .int .u16 nx', .int .u32 bt', .bool fi', .bool la', .bool al', (rs.getD 1 undef)] 72 (0, 0)), (B, .cells #[.int .u16 ep, .int .u16 sq, .int .u16 nx, .int .u32 bt, .bool fi, .bool la, .bool al, (rs.getD 0 undef)] 72 (0, 0))] [fun w => (Kd.int .u8).R 5 w B (fun _ => True) ((rs.getD 5 undef)) Q, fun w => (Kd.int .u8).R 5 w B (fun _ => True) ((rs.getD 1 undef)) D', fun w => (Kd.int .u8).R 5 w B (fun _ => True) ((rs.getD 0 undef)) D] := h); show Hp B w00 w' [(gb, .cells #[.int .u16 ep', .int .u16 sq', .int .u16 nx', .int .u32 bt', .bool fi', .bool la', .bool al', (rs.getD 1 undef)] 72 (0, 0)), (B, .cells #[.int .u16 ep, .int .u16 sq, .int .u16 nx, .int .u32 bt, .bool fi, .bool la, .bool al, (rs.getD 0 undef)] 72 (0, 0))] [fun w' => (Kd.int .u8).R 5 w' B (fun _ => True) ((rs.getD 5 undef)) Q, fun w' => (Kd.int .u8).R 5 w' B (fun _ => True) ((rs.getD 1 undef)) D', fun w' => (Kd.int .u8).R 5 w' B (fun _ => True) ((rs.getD 0 undef)) D]; exact h.call hb
    | _ + 7, h => exact h.elim
  case z3_1g =>
    intro j hj; cases hj
  case z3_1t0 => exact StabS.const _ _ _ _
  case z3_1t1 => exact StabS.const _ _ _ _
  case z3_1t2 => exact StabS.const _ _ _ _
  case z3_1t3 => exact StabS.const _ _ _ _
  case z3_1t4 => exact StabS.const _ _ _ _
  case z3_1t5 => exact StabS.const _ _ _ _
  case z3_1t6 => exact StabS.const _ _ _ _
  case z3_1t7 => exact StabS.const _ _ _ _
  case z3_1t8 => exact StabS.const _ _ _ _
  case z3_1t9 => exact StabS.const _ _ _ _
  case z3_1t10 => exact StabS.const _ _ _ _
  case z3_1t11 => exact StabS.const _ _ _ _
  case z3_1t12 => exact StabS.const _ _ _ _
  case z3_1o0 =>
    intro vs w t hC ht1 ht2 hS hV
    rw [if_pos (by kernel_rfl)]
    generalize hρ : rho _ _ _ vs = ρ
    have e6 : ρ (.tmp 6) = .pointer (some ⟨B, 0, none⟩) := by rw [← hρ]; kernel_rfl
    clear hρ hV
    refine runs_val (v := .pointer (some ⟨B, 7, none⟩)) (w' := w) ?_ ⟨Below.refl _ _, rfl⟩
    clear ht1 ht2 hS hC
    go_simp <;> (first | exact IntWalk.u64_in _ (by omega) | exact IntWalk.u32_in _ (by omega) | exact IntWalk.u16_in _ (by omega) | exact IntWalk.u8_in _ (by omega) | exact IntWalk.i64_in _ (by omega) | skip)
  case z3_1o1 =>
    intro vs w t hC ht1 ht2 hS hV
    rw [if_pos (by kernel_rfl)]
    generalize hρ : rho _ _ _ vs = ρ
    have d25 : (vs 0) = .pointer (some ⟨B, 7, none⟩) := hV 0 (by kernel_rfl)
    have e25 : ρ (.tmp 25) = vs 0 := by rw [← hρ]; kernel_rfl
    rw [d25] at e25; clear d25
    clear hρ hV
    have ht0 : t ≤ 0 := by
      rcases Nat.lt_or_ge 0 t with hq | hq
      · exact absurd (ht1 0 2 _ hq rfl rfl) (by decide +kernel)
      · exact hq
    rcases (show t = 0 by omega) with rfl
    · replace hS : Hp B w00 w [(gb, .cells #[.int .u16 ep', .int .u16 sq', .int .u16 nx', .int .u32 bt', .bool fi', .bool la', .bool al', .slice A2 n2 c2] 72 (0, 0)), (B, .cells #[.int .u16 ep, .int .u16 sq, .int .u16 nx, .int .u32 bt, .bool fi, .bool la, .bool al, .slice A1 n1 c1] 72 (0, 0))] [] := hS
      have c0 := blk_cell (hS.get (i := 1) rfl) 7
      refine runs_val (v := .slice A1 n1 c1) (w' := w) ?_ ⟨Below.refl _ _, rfl⟩
      clear ht1 ht2 hS hC
      go_simp
  case z3_1o2 =>
    intro vs w hC hS hV
    replace hS : Hp B w00 w [(gb, .cells #[.int .u16 ep', .int .u16 sq', .int .u16 nx', .int .u32 bt', .bool fi', .bool la', .bool al', .slice A2 n2 c2] 72 (0, 0)), (B, .cells #[.int .u16 ep, .int .u16 sq, .int .u16 nx, .int .u32 bt, .bool fi, .bool la, .bool al, .slice A1 n1 c1] 72 (0, 0))] [] := hS
    rw [if_pos (by kernel_rfl)]
    generalize hρ : rho _ _ _ vs = ρ
    have d26 : (vs 1) = .slice A1 n1 c1 := hV 1 (by kernel_rfl)
    have e26 : ρ (.tmp 26) = vs 1 := by rw [← hρ]; kernel_rfl
    rw [d26] at e26; clear d26
    have ef12 : ρ (.func 12) = .func (.func 12) #[] #[] := by rw [← hρ]; rfl
    have econ : ∀ v : Value, ρ (.const v) = v := fun v => by rw [← hρ]; rfl
    clear hρ hV
    refine runs_call (f := 12) (args := #[.slice A1 n1 c1, .int .i64 80]) (w' := w) ?_ ?_
    · clear hS hC; go_simp
    · refine (KC1.out w (HF.out w hC.1).1).mono ?_
      rintro e w5 ⟨v, rfl, hv, hb5⟩
      exact ⟨_, rfl, ⟨hC.1.trans (hb5.mono hC.2), Nat.le_trans hC.2 hb5.size⟩, trivial, trivial, hS.row hb5 hv⟩
  case z3_1o3 =>
    intro vs w t hC ht1 ht2 hS hV
    rw [if_pos (by kernel_rfl)]
    generalize hρ : rho _ _ _ vs = ρ
    have e11 : ρ (.tmp 11) = .pointer (some ⟨gb, 0, none⟩) := by rw [← hρ]; kernel_rfl
    clear hρ hV
    refine runs_val (v := .pointer (some ⟨gb, 7, none⟩)) (w' := w) ?_ ⟨Below.refl _ _, rfl⟩
    clear ht1 ht2 hS hC
    go_simp <;> (first | exact IntWalk.u64_in _ (by omega) | exact IntWalk.u32_in _ (by omega) | exact IntWalk.u16_in _ (by omega) | exact IntWalk.u8_in _ (by omega) | exact IntWalk.i64_in _ (by omega) | skip)
  case z3_1o4 =>
    intro vs w t hC ht1 ht2 hS hV
    rw [if_pos (by kernel_rfl)]
    generalize hρ : rho _ _ _ vs = ρ
    have d28 : (vs 3) = .pointer (some ⟨gb, 7, none⟩) := hV 3 (by kernel_rfl)
    have e28 : ρ (.tmp 28) = vs 3 := by rw [← hρ]; kernel_rfl
    rw [d28] at e28; clear d28
    clear hρ hV
    have ht0 : t ≤ 1 := by
      rcases Nat.lt_or_ge 1 t with hq | hq
      · exact absurd (ht1 1 5 _ hq rfl rfl) (by decide +kernel)
      · exact hq
    rcases (show t = 0 ∨ t = 1 by omega) with rfl | rfl
    · replace hS : Hp B w00 w [(gb, .cells #[.int .u16 ep', .int .u16 sq', .int .u16 nx', .int .u32 bt', .bool fi', .bool la', .bool al', .slice A2 n2 c2] 72 (0, 0)), (B, .cells #[.int .u16 ep, .int .u16 sq, .int .u16 nx, .int .u32 bt, .bool fi, .bool la, .bool al, .slice A1 n1 c1] 72 (0, 0))] [] := hS
      have c0 := blk_cell (hS.get (i := 0) rfl) 7
      refine runs_val (v := .slice A2 n2 c2) (w' := w) ?_ ⟨Below.refl _ _, rfl⟩
      clear ht1 ht2 hS hC
      go_simp
    · replace hS : Hp B w00 w [(gb, .cells #[.int .u16 ep', .int .u16 sq', .int .u16 nx', .int .u32 bt', .bool fi', .bool la', .bool al', .slice A2 n2 c2] 72 (0, 0)), (B, .cells #[.int .u16 ep, .int .u16 sq, .int .u16 nx, .int .u32 bt, .bool fi, .bool la, .bool al, .slice A1 n1 c1] 72 (0, 0))] [fun w => (Kd.int .u8).R 5 w B (fun _ => True) ((vs 2)) D] := hS
      have c0 := blk_cell (hS.get (i := 0) rfl) 7
      refine runs_val (v := .slice A2 n2 c2) (w' := w) ?_ ⟨Below.refl _ _, rfl⟩
      clear ht1 ht2 hS hC
      go_simp
  case z3_1o5 =>
    intro vs w hC hS hV
    replace hS : Hp B w00 w [(gb, .cells #[.int .u16 ep', .int .u16 sq', .int .u16 nx', .int .u32 bt', .bool fi', .bool la', .bool al', .slice A2 n2 c2] 72 (0, 0)), (B, .cells #[.int .u16 ep, .int .u16 sq, .int .u16 nx, .int .u32 bt, .bool fi, .bool la, .bool al, .slice A1 n1 c1] 72 (0, 0))] [fun w => (Kd.int .u8).R 5 w B (fun _ => True) ((vs 2)) D] := hS
    rw [if_pos (by kernel_rfl)]
    generalize hρ : rho _ _ _ vs = ρ
    have d29 : (vs 4) = .slice A2 n2 c2 := hV 4 (by kernel_rfl)
    have e29 : ρ (.tmp 29) = vs 4 := by rw [← hρ]; kernel_rfl
    rw [d29] at e29; clear d29
    have ef12 : ρ (.func 12) = .func (.func 12) #[] #[] := by rw [← hρ]; rfl
    have econ : ∀ v : Value, ρ (.const v) = v := fun v => by rw [← hρ]; rfl
    clear hρ hV
    refine runs_call (f := 12) (args := #[.slice A2 n2 c2, .int .i64 80]) (w' := w) ?_ ?_
    · clear hS hC; go_simp
    · refine (KC2.out w (HF.out w hC.1).2.1).mono ?_
      rintro e w5 ⟨v, rfl, hv, hb5⟩
      exact ⟨_, rfl, ⟨hC.1.trans (hb5.mono hC.2), Nat.le_trans hC.2 hb5.size⟩, trivial, trivial, hS.row hb5 hv⟩
  case z3_1o6 =>
    intro vs w t hC ht1 ht2 hS hV
    rw [if_pos (by kernel_rfl)]
    generalize hρ : rho _ _ _ vs = ρ
    have e1 : ρ (.tmp 1) = .slice A n c := by rw [← hρ]; kernel_rfl
    clear hρ hV
    refine runs_val (v := .slice A n c) (w' := w) ?_ ⟨Below.refl _ _, rfl⟩
    clear ht1 ht2 hS hC
    go_simp <;> (first | exact IntWalk.u64_in _ (by omega) | exact IntWalk.u32_in _ (by omega) | exact IntWalk.u16_in _ (by omega) | exact IntWalk.u8_in _ (by omega) | exact IntWalk.i64_in _ (by omega) | skip)
  case z3_1o7 =>
    intro vs w hC hS hV
    replace hS : Hp B w00 w [(gb, .cells #[.int .u16 ep', .int .u16 sq', .int .u16 nx', .int .u32 bt', .bool fi', .bool la', .bool al', .slice A2 n2 c2] 72 (0, 0)), (B, .cells #[.int .u16 ep, .int .u16 sq, .int .u16 nx, .int .u32 bt, .bool fi, .bool la, .bool al, .slice A1 n1 c1] 72 (0, 0))] [fun w => (Kd.int .u8).R 5 w B (fun _ => True) ((vs 5)) D', fun w => (Kd.int .u8).R 5 w B (fun _ => True) ((vs 2)) D] := hS
    rw [if_pos (by kernel_rfl)]
    generalize hρ : rho _ _ _ vs = ρ
    have d31 : (vs 6) = .slice A n c := hV 6 (by kernel_rfl)
    have e31 : ρ (.tmp 31) = vs 6 := by rw [← hρ]; kernel_rfl
    rw [d31] at e31; clear d31
    have ef12 : ρ (.func 12) = .func (.func 12) #[] #[] := by rw [← hρ]; rfl
    have econ : ∀ v : Value, ρ (.const v) = v := fun v => by rw [← hρ]; rfl
    clear hρ hV
    refine runs_call (f := 12) (args := #[.slice A n c, .int .i64 60]) (w' := w) ?_ ?_
    · clear hS hC; go_simp
    · refine (KC3.out w (HF.out w hC.1).2.2).mono ?_
      rintro e w5 ⟨v, rfl, hv, hb5⟩
      exact ⟨_, rfl, ⟨hC.1.trans (hb5.mono hC.2), Nat.le_trans hC.2 hb5.size⟩, trivial, trivial, hS.row hb5 hv⟩
  case z3_1o8 =>
    intro vs w t hC ht1 ht2 hS hV
    rw [if_pos (by kernel_rfl)]
    generalize hρ : rho _ _ _ vs = ρ
    have e6 : ρ (.tmp 6) = .pointer (some ⟨B, 0, none⟩) := by rw [← hρ]; kernel_rfl
    clear hρ hV
    refine runs_val (v := .pointer (some ⟨B, 7, none⟩)) (w' := w) ?_ ⟨Below.refl _ _, rfl⟩
    clear ht1 ht2 hS hC
    go_simp <;> (first | exact IntWalk.u64_in _ (by omega) | exact IntWalk.u32_in _ (by omega) | exact IntWalk.u16_in _ (by omega) | exact IntWalk.u8_in _ (by omega) | exact IntWalk.i64_in _ (by omega) | skip)
  case z3_1o9 =>
    intro vs w hC hS hV
    replace hS : Hp B w00 w [(gb, .cells #[.int .u16 ep', .int .u16 sq', .int .u16 nx', .int .u32 bt', .bool fi', .bool la', .bool al', .slice A2 n2 c2] 72 (0, 0)), (B, .cells #[.int .u16 ep, .int .u16 sq, .int .u16 nx, .int .u32 bt, .bool fi, .bool la, .bool al, .slice A1 n1 c1] 72 (0, 0))] [fun w => (Kd.int .u8).R 5 w B (fun _ => True) ((vs 7)) Q, fun w => (Kd.int .u8).R 5 w B (fun _ => True) ((vs 5)) D', fun w => (Kd.int .u8).R 5 w B (fun _ => True) ((vs 2)) D] := hS
    rw [if_pos (by kernel_rfl)]
    generalize hρ : rho _ _ _ vs = ρ
    have d33 : (vs 8) = .pointer (some ⟨B, 7, none⟩) := hV 8 (by kernel_rfl)
    have e33 : ρ (.tmp 33) = vs 8 := by rw [← hρ]; kernel_rfl
    rw [d33] at e33; clear d33
    have d27 : (fun (w : World) (v : Value) => True) w (vs 2) := hV 2 (by kernel_rfl)
    have e27 : ρ (.tmp 27) = vs 2 := by rw [← hρ]; kernel_rfl
    clear hρ hV
    have f0' := blk_frozen (hS.get (i := 1) rfl) 7
    have c0 := blk_cell (hS.get (i := 1) rfl) 7
    have hS2 := hS.setCell (i := 1) rfl 7 (vs 2)
    obtain ⟨A5, c5, hs5⟩ := Kd.R_slice (hS.fact (i := 2) rfl)
    refine runs_skip (w' := w.setCell ⟨B, 7, none⟩ (vs 2)) ?_ ⟨⟨hS2.bel, hS2.le⟩, trivial, trivial, hS2⟩
    rw [hs5] at e27
    rw [hs5]
    clear hS hS2 hC hs5 d27
    go_simp
  case z3_1o10 =>
    intro vs w t hC ht1 ht2 hS hV
    rw [if_pos (by kernel_rfl)]
    generalize hρ : rho _ _ _ vs = ρ
    have e11 : ρ (.tmp 11) = .pointer (some ⟨gb, 0, none⟩) := by rw [← hρ]; kernel_rfl
    clear hρ hV
    refine runs_val (v := .pointer (some ⟨gb, 7, none⟩)) (w' := w) ?_ ⟨Below.refl _ _, rfl⟩
    clear ht1 ht2 hS hC
    go_simp <;> (first | exact IntWalk.u64_in _ (by omega) | exact IntWalk.u32_in _ (by omega) | exact IntWalk.u16_in _ (by omega) | exact IntWalk.u8_in _ (by omega) | exact IntWalk.i64_in _ (by omega) | skip)
  case z3_1o11 =>
    intro vs w hC hS hV
    replace hS : Hp B w00 w [(gb, .cells #[.int .u16 ep', .int .u16 sq', .int .u16 nx', .int .u32 bt', .bool fi', .bool la', .bool al', .slice A2 n2 c2] 72 (0, 0)), (B, .cells #[.int .u16 ep, .int .u16 sq, .int .u16 nx, .int .u32 bt, .bool fi, .bool la, .bool al, (vs 2)] 72 (0, 0))] [fun w => (Kd.int .u8).R 5 w B (fun _ => True) ((vs 7)) Q, fun w => (Kd.int .u8).R 5 w B (fun _ => True) ((vs 5)) D', fun w => (Kd.int .u8).R 5 w B (fun _ => True) ((vs 2)) D] := hS
    rw [if_pos (by kernel_rfl)]
    generalize hρ : rho _ _ _ vs = ρ
    have d34 : (vs 10) = .pointer (some ⟨gb, 7, none⟩) := hV 10 (by kernel_rfl)
    have e34 : ρ (.tmp 34) = vs 10 := by rw [← hρ]; kernel_rfl
    rw [d34] at e34; clear d34
    have d30 : (fun (w : World) (v : Value) => True) w (vs 5) := hV 5 (by kernel_rfl)
    have e30 : ρ (.tmp 30) = vs 5 := by rw [← hρ]; kernel_rfl
    clear hρ hV
    have f0' := blk_frozen (hS.get (i := 0) rfl) 7
    have c0 := blk_cell (hS.get (i := 0) rfl) 7
    have hS2 := hS.setCell (i := 0) rfl 7 (vs 5)
    obtain ⟨A5, c5, hs5⟩ := Kd.R_slice (hS.fact (i := 1) rfl)
    refine runs_skip (w' := w.setCell ⟨gb, 7, none⟩ (vs 5)) ?_ ⟨⟨hS2.bel, hS2.le⟩, trivial, trivial, hS2⟩
    rw [hs5] at e30
    rw [hs5]
    clear hS hS2 hC hs5 d30
    go_simp
  case z3_1o12 =>
    intro vs w hC hS hV
    replace hS : Hp B w00 w [(gb, .cells #[.int .u16 ep', .int .u16 sq', .int .u16 nx', .int .u32 bt', .bool fi', .bool la', .bool al', (vs 5)] 72 (0, 0)), (B, .cells #[.int .u16 ep, .int .u16 sq, .int .u16 nx, .int .u32 bt, .bool fi, .bool la, .bool al, (vs 2)] 72 (0, 0))] [fun w => (Kd.int .u8).R 5 w B (fun _ => True) ((vs 7)) Q, fun w => (Kd.int .u8).R 5 w B (fun _ => True) ((vs 5)) D', fun w => (Kd.int .u8).R 5 w B (fun _ => True) ((vs 2)) D] := hS
    rw [if_pos (by kernel_rfl)]
    generalize hρ : rho _ _ _ vs = ρ
    have d32 : (fun (w : World) (v : Value) => True) w (vs 7) := hV 7 (by kernel_rfl)
    have e32 : ρ (.tmp 32) = vs 7 := by rw [← hρ]; kernel_rfl
    clear hρ hV
    refine runs_val (v := vs 7) (w' := w) ?_ ⟨hC, trivial, trivial, hS⟩
    clear hS hC
    go_simp
  case z3_1e =>
    intro vs W3 hC hS hV
    replace hS : (fun (w : World) => Hp B w00 w [(gb, .cells #[.int .u16 ep', .int .u16 sq', .int .u16 nx', .int .u32 bt', .bool fi', .bool la', .bool al', (vs 5)] 72 (0, 0)), (B, .cells #[.int .u16 ep, .int .u16 sq, .int .u16 nx, .int .u32 bt, .bool fi, .bool la, .bool al, (vs 2)] 72 (0, 0))] [fun w => (Kd.int .u8).R 5 w B (fun _ => True) ((vs 12)) Q, fun w => (Kd.int .u8).R 5 w B (fun _ => True) ((vs 5)) D', fun w => (Kd.int .u8).R 5 w B (fun _ => True) ((vs 2)) D]) W3 := hS
    have d25 : (vs 0) = .pointer (some ⟨B, 7, none⟩) := hV 0 (Nat.le_of_ble_eq_true rfl)
    have d26 : (vs 1) = .slice A1 n1 c1 := hV 1 (Nat.le_of_ble_eq_true rfl)
    have d27 : (fun (w : World) (v : Value) => True) W3 (vs 2) := hV 2 (Nat.le_of_ble_eq_true rfl)
    have d28 : (vs 3) = .pointer (some ⟨gb, 7, none⟩) := hV 3 (Nat.le_of_ble_eq_true rfl)
    have d29 : (vs 4) = .slice A2 n2 c2 := hV 4 (Nat.le_of_ble_eq_true rfl)
    have d30 : (fun (w : World) (v : Value) => True) W3 (vs 5) := hV 5 (Nat.le_of_ble_eq_true rfl)
    have d31 : (vs 6) = .slice A n c := hV 6 (Nat.le_of_ble_eq_true rfl)
    have d32 : (fun (w : World) (v : Value) => True) W3 (vs 7) := hV 7 (Nat.le_of_ble_eq_true rfl)
    have d33 : (vs 8) = .pointer (some ⟨B, 7, none⟩) := hV 8 (Nat.le_of_ble_eq_true rfl)
    have d34 : (vs 10) = .pointer (some ⟨gb, 7, none⟩) := hV 10 (Nat.le_of_ble_eq_true rfl)
    have d1 : (fun (w : World) (v : Value) => True) W3 (vs 12) := hV 12 (Nat.le_of_ble_eq_true rfl)
    clear hV
    simp only [putAll]
    rw [d25, d26, d28, d29, d31, d33, d34]
    clear d25 d26 d28 d29 d31 d33 d34
    generalize vs 2 = v27 at *
    generalize vs 5 = v30 at *
    generalize vs 7 = v32 at *
    generalize vs 12 = v1 at *
    generalize vs 9 = vN9
    generalize vs 11 = vN11
    clear vs
    simp only [Act.put, List.setIfInBounds_toArray, List.set_cons_zero, List.set_cons_succ]
    have H3 := Aside0.mk hS
    clear hS hC d27 d30 d32 d1 H1 KC1 KC2 KC3 HF
    obtain ⟨Aq, cq, q1, hcq, _⟩ := Kd.R_reads (H3.out.fact (i := 0) rfl)
    obtain ⟨Ae, ce, q2, hce, _⟩ := Kd.R_reads (H3.out.fact (i := 1) rfl)
    obtain ⟨Ad, cd, q3, hcd, _⟩ := Kd.R_reads (H3.out.fact (i := 2) rfl)
    obtain ⟨dn, hdn⟩ : ∃ n, D.length = n := ⟨_, rfl⟩
    obtain ⟨dn', hdn'⟩ : ∃ n, D'.length = n := ⟨_, rfl⟩
    obtain ⟨ql, hql⟩ : ∃ n, Q.length = n := ⟨_, rfl⟩
    rw [hql] at q1 hcq
    rw [hdn'] at q2 hce
    rw [hdn] at q3 hcd
    subst q1 q2 q3
    have HDN := Aside0.mk (And.intro hdn hcd)
    have HDN' := Aside0.mk (And.intro hdn' hce)
    have HQL := Aside0.mk (And.intro hql hcq)
    clear hcq hce hcd hdn hdn' hql
    have HFR : Aside0 (∀ z : World, (Kd.int .u8).R 5 z B (fun _ => True) (.slice Ad dn cd) D → FrC z ep sq nx bt fi la al D (.agg #[.int .u16 ep, .int .u16 sq, .int .u16 nx, .int .u32 bt, .bool fi, .bool la, .bool al, .slice Ad dn cd])) := ⟨fun z h => ⟨Ad, cd, by rw [HDN.out.1], by rw [HDN.out.1]; exact HDN.out.2, by rw [HDN.out.1]; exact (Ru_C h).2.2⟩⟩
    have HFR' : Aside0 (∀ z : World, (Kd.int .u8).R 5 z B (fun _ => True) (.slice Ae dn' ce) D' → FrC z ep' sq' nx' bt' fi' la' al' D' (.agg #[.int .u16 ep', .int .u16 sq', .int .u16 nx', .int .u32 bt', .bool fi', .bool la', .bool al', .slice Ae dn' ce])) := ⟨fun z h => ⟨Ae, ce, by rw [HDN'.out.1], by rw [HDN'.out.1]; exact HDN'.out.2, by rw [HDN'.out.1]; exact (Ru_C h).2.2⟩⟩
    obtain ⟨fb, hfb⟩ : ∃ fb, fBytes ep sq nx bt fi la al D = fb := ⟨_, rfl⟩
    have HFB := Aside0.mk hfb
    have HFBB : Aside0 (Bytes fb) := ⟨by rw [← hfb]; exact fBytes_bytes _ _ _ _ _ _ _ D HDB.out.1⟩
    clear hfb
    go_wp2_with (first | (refine wpList_load_row_g 72 (.tmp 6) rfl B rfl rfl 72 _ (0, 0) _ (H3.out.get (i := 1) rfl) Try.underlying72 rfl (frame_info _ _ _ _ _ _ _ _) ?_))
    refine (fbytes_any ep sq nx bt fi la al D _ W3 (HFR.out W3 (H3.out.fact (i := 2) rfl)) HE.out HDB.out.1).mono ?_
    rintro e w4 ⟨v4, rfl, hv4, hb4⟩
    rw [HFB.out] at hv4
    have H4 := Aside0.mk (H3.out.row hb4 hv4)
    obtain ⟨Ab, cb, rfl, hcb, _⟩ := Kd.R_reads hv4
    obtain ⟨bl, hbl⟩ : ∃ n, fb.length = n := ⟨_, rfl⟩
    rw [hbl] at H4 hcb
    rw [hbl]
    have HBL := Aside0.mk (And.intro hbl hcb)
    clear hb4 hv4 hcb hbl H3
    go_wp2_with (first | (refine wpList_load_row_g 72 (.tmp 6) rfl B rfl rfl 72 _ (0, 0) _ (H4.out.get (i := 1) rfl) Try.underlying72 rfl (frame_info _ _ _ _ _ _ _ _) ?_))
    refine (own11_any ep sq nx bt fi la al D _ w4 (HFR.out w4 (H4.out.fact (i := 3) rfl))).mono ?_
    rintro e w5 ⟨v5, rfl, hv5, hb5⟩
    have H5 := Aside0.mk (H4.out.call hb5)
    clear hb5 H4
    go_wp2_with fail
    refine (rright11_any ep sq nx bt fi la al D _ w5 hv5).mono ?_
    rintro e w6 ⟨rfl, hb6⟩
    have H6 := Aside0.mk (H5.out.call hb6)
    clear hb6 hv5 H5
    obtain ⟨ρ, hρ⟩ : ∃ ρ, rightF sq D.length fi la al = ρ := ⟨_, rfl⟩
    rw [hρ]
    have HRH := Aside0.mk hρ
    clear hρ
    have HB81 : Aside0 (fb.length ≤ 81) := ⟨by
      rw [← HFB.out]
      cases hh : rightF sq D.length fi la al with
      | false => rw [fBytes_no hh]; simp
      | true => rw [fBytes_len hh]; have := rightF_le hh; omega⟩
    have hd1 : decide (0 < bl) = ρ := by
      rw [← HBL.out.1, ← HFB.out]
      cases ρ with
      | false => rw [fBytes_no HRH.out]; rfl
      | true => rw [fBytes_len HRH.out]; exact decide_eq_true (by omega)
    have hd0 : decide ((0 : Int) < bl) = ρ := by rw [← hd1]; exact decide_eq_decide.2 (by omega)
    go_upto_if 47 with fail
    go_cut [14] from 48 to 89 (fun v14 wz => ∃ (E : List Int) (Az : Option Addr) (cz : Nat), v14 = .slice Az E.length cz ∧ Aside0 (E.length ≤ cz ∧ Bytes E ∧ E.length ≤ 81 ∧ Hp B w00 wz [(gb, .cells #[.int .u16 ep', .int .u16 sq', .int .u16 nx', .int .u32 bt', .bool fi', .bool la', .bool al', .slice Ae dn' ce] 72 (0, 0)), (B, .cells #[.int .u16 ep, .int .u16 sq, .int .u16 nx, .int .u32 bt, .bool fi, .bool la, .bool al, .slice Ad dn cd] 72 (0, 0))] [fun w => (Kd.int .u8).R 5 w B (fun _ => True) (.slice Az E.length cz) E, fun w => (Kd.int .u8).R 5 w B (fun _ => True) (.slice Ab bl cb) fb, fun w => (Kd.int .u8).R 5 w B (fun _ => True) (.slice Aq ql cq) Q, fun w => (Kd.int .u8).R 5 w B (fun _ => True) (.slice Ae dn' ce) D', fun w => (Kd.int .u8).R 5 w B (fun _ => True) (.slice Ad dn cd) D]))
    case first =>
      clear hd0 hd1
      cases ρ with
      | false =>
        have hb0 : bl = 0 := by rw [← HBL.out.1, ← HFB.out, fBytes_no HRH.out]; rfl
        subst hb0
        go_wp2_with fail
        go_meet
        exact ⟨Q, Aq, cq, by rw [HQL.out.1], ⟨by rw [HQL.out.1]; exact HQL.out.2, HDB.out.2.2, by have := HDL.out.2.2; omega, by
          rw [HQL.out.1]
          refine H6.out.drop (fun φ hφ => ?_)
          simp only [List.mem_cons, List.not_mem_nil, or_false] at hφ ⊢
          rcases hφ with rfl | rfl | rfl | rfl | rfl <;> simp⟩⟩
      | true =>
        have hbl2 : bl = 17 + dn := by rw [← HBL.out.1, ← HFB.out, fBytes_len HRH.out, HDN.out.1]
        have hb81 : bl ≤ 81 := by have := rightF_le HRH.out; rw [HDN.out.1] at this; omega
        have HBP : Aside0 (17 ≤ bl ∧ bl ≤ 81) := ⟨by omega, hb81⟩
        have HDS : Aside0 (D.length ≤ 64) := ⟨rightF_le HRH.out⟩
        have HSB : Aside0 (sealL (rBody ep sq nx bt fi la al D) = fb) := ⟨by rw [rBody_small _ _ _ _ _ _ _ _ HDS.out, ← HFB.out]; unfold fBytes; rw [if_pos HRH.out]⟩
        have hb0 : (0 : Int) < bl := by omega
        have hd0 : decide ((0 : Int) < bl) = true := decide_eq_true hb0
        have hd1 : decide (0 < bl) = true := decide_eq_true (by omega)
        clear hbl2 hb81
        go_wp2_with fail
        refine (fparse_any Ab bl cb fb w6 (Ru_C (H6.out.fact (i := 0) rfl)).2.2 HBL.out.2 (by have := HBP.out; omega) HFBB.out).mono ?_
        rintro e w7 ⟨⟨v7, rfl, hv7⟩, hb7⟩
        have hpf := parseF_back ep sq nx bt fi la al D HE.out HRH.out
        rw [HFB.out] at hpf
        rw [hpf] at hv7 ⊢
        simp only at hv7
        obtain ⟨A7, c7, rfl, hc7, hC7⟩ := hv7
        rw [HDN.out.1] at hc7 hC7
        rw [HDN.out.1]
        obtain ⟨g15, hg15⟩ : ∃ g, w7.heap.size = g := ⟨_, rfl⟩
        have H7 := Aside0.mk (H6.out.call hb7)
        have H8 := Aside0.mk (H7.out.allocAt (.cells #[.int .u16 ep, .int .u16 sq, .int .u16 nx, .int .u32 bt, .bool fi, .bool la, .bool al, .slice A7 dn c7] 72) g15 hg15)
        have HX7 : Aside0 (∀ z, Below w7.heap.size w7 z → FrC z ep sq nx bt fi la al D (.agg #[.int .u16 ep, .int .u16 sq, .int .u16 nx, .int .u32 bt, .bool fi, .bool la, .bool al, .slice A7 dn c7])) := ⟨fun z hz => ⟨A7, c7, by rw [HDN.out.1], by rw [HDN.out.1]; exact hc7, by rw [HDN.out.1]; exact Kd.C_below hC7 hz⟩⟩
        have HB7 : Aside0 (Below w7.heap.size w7 (w7.alloc (.cells #[.int .u16 ep, .int .u16 sq, .int .u16 nx, .int .u32 bt, .bool fi, .bool la, .bool al, .slice A7 dn c7] 72))) := ⟨below_alloc (Below.refl _ _) _⟩
        clear hb7 hpf hc7 hC7 H6 H7
        go_wp2_with (first | (refine wpList_load_row_g 72 (.tmp 6) rfl B rfl rfl 72 _ (0, 0) _ (H8.out.get (i := 2) rfl) Try.underlying72 rfl (frame_info _ _ _ _ _ _ _ _) ?_) | (refine wpList_load_row_g 72 (.tmp 15) rfl g15 rfl rfl 72 _ (0, 0) _ (H8.out.get (i := 0) rfl) Try.underlying72 rfl (frame_info _ _ _ _ _ _ _ _) ?_))
        generalize w7.alloc (.cells #[.int .u16 ep, .int .u16 sq, .int .u16 nx, .int .u32 bt, .bool fi, .bool la, .bool al, .slice A7 dn c7] 72) = w8 at *
        clear hg15
        refine (own11_any ep sq nx bt fi la al D _ w8 (HFR.out w8 (H8.out.fact (i := 3) rfl))).mono ?_
        rintro e w9 ⟨v9, rfl, hv9, hb9⟩
        have H9 := Aside0.mk (H8.out.call hb9)
        have HB9 := Aside0.mk (HB7.out.trans (hb9.mono HB7.out.size))
        clear hb9 H8 HB7
        go_wp2_with (first | (refine wpList_load_row_g 72 (.tmp 6) rfl B rfl rfl 72 _ (0, 0) _ (H9.out.get (i := 2) rfl) Try.underlying72 rfl (frame_info _ _ _ _ _ _ _ _) ?_) | (refine wpList_load_row_g 72 (.tmp 15) rfl g15 rfl rfl 72 _ (0, 0) _ (H9.out.get (i := 0) rfl) Try.underlying72 rfl (frame_info _ _ _ _ _ _ _ _) ?_))
        refine (rbytes11_any ep sq nx bt fi la al D _ w9 hv9 HE.out HDB.out.1 (by have := HDL.out.1; omega)).mono ?_
        rintro e w10 ⟨v10, rfl, hv10, hb10⟩
        rw [HSB.out] at hv10
        obtain ⟨A11, c11, rfl, hc11, hC11⟩ := hv10
        rw [HBL.out.1] at hc11 hC11
        rw [HBL.out.1]
        have H10 := Aside0.mk (H9.out.call hb10)
        have HB10 := Aside0.mk (HB9.out.trans (hb10.mono HB9.out.size))
        clear hb10 hv9 H9 HB9
        go_wp2_with (first | (refine wpList_load_row_g 72 (.tmp 6) rfl B rfl rfl 72 _ (0, 0) _ (H10.out.get (i := 2) rfl) Try.underlying72 rfl (frame_info _ _ _ _ _ _ _ _) ?_) | (refine wpList_load_row_g 72 (.tmp 15) rfl g15 rfl rfl 72 _ (0, 0) _ (H10.out.get (i := 0) rfl) Try.underlying72 rfl (frame_info _ _ _ _ _ _ _ _) ?_))
        refine (same_told fb fb _ _ w10 ⟨Ab, cb, by rw [HBL.out.1], by rw [HBL.out.1]; exact HBL.out.2, by rw [HBL.out.1]; exact (Ru_C (H10.out.fact (i := 0) rfl)).2.2⟩ ⟨A11, c11, by rw [HBL.out.1], by rw [HBL.out.1]; exact hc11, by rw [HBL.out.1]; exact hC11⟩).mono ?_
        rintro e w11 ⟨rfl, hb11⟩
        rw [decide_eq_true (show fb = fb from rfl)]
        have H11 := Aside0.mk (H10.out.call hb11)
        have HB11 := Aside0.mk (HB10.out.trans (hb11.mono HB10.out.size))
        clear hb11 hC11 hc11 H10 HB10
        go_wp2_with (first | (refine wpList_load_row_g 72 (.tmp 6) rfl B rfl rfl 72 _ (0, 0) _ (H11.out.get (i := 2) rfl) Try.underlying72 rfl (frame_info _ _ _ _ _ _ _ _) ?_) | (refine wpList_load_row_g 72 (.tmp 15) rfl g15 rfl rfl 72 _ (0, 0) _ (H11.out.get (i := 0) rfl) Try.underlying72 rfl (frame_info _ _ _ _ _ _ _ _) ?_))
        refine (fsame_any ep sq nx bt ep sq nx bt fi la al fi la al D D _ _ w11 (HX7.out w11 HB11.out) (HFR.out w11 (H11.out.fact (i := 3) rfl)) HDB.out.1 HDB.out.1 true (by simp)).mono ?_
        rintro e w12 ⟨rfl, hb12⟩
        have H12 := Aside0.mk (H11.out.call hb12).rest
        clear hb12 H11 HX7 HB11
        go_wp2_with fail
        refine (join_any _ _ _ [fb] _ (C_one_row rfl (Ru_C (H12.out.fact (i := 0) rfl)).2.2 HBL.out.2) (Nat.le_refl _) (by have h1 := HB81.out; simp; omega)).mono ?_
        rintro e w14 ⟨v14, rfl, hv14, hbw14⟩
        rw [List.flatten_cons, List.flatten_nil, List.append_nil] at hv14
        have hown := Kd.own_of_R (enc := Value.int .u8) (h1 := fun _ => rfl) hv14
        obtain ⟨ge, ce2, rfl, hge, hgl⟩ := hown.form (by rw [HBL.out.1]; have := HBP.out; omega)
        have hjl : a % bl < fb.length := by rw [HBL.out.1]; exact Nat.mod_lt _ (by have := HBP.out; omega)
        have hje : (a : Int) % (bl : Int) = ((a % bl : Nat) : Int) := rfl
        obtain ⟨b, hbe, hbl8⟩ := HFBB.out.nat hjl
        have hat2 := own_at (k := .u8) hown ((a % bl : Nat) : Int) (by omega) (by omega)
        rw [Int.toNat_natCast, rd_getElem hjl, hbe] at hat2
        obtain ⟨hcq, hfq⟩ := hat2
        have hx : bits .xor .u8 (b : Int) (tn : Int) = ((b ^^^ tn : Nat) : Int) := u8_xor_nat b tn hbl8 (by have := HAT.out; omega)
        have hxl : b ^^^ tn < 256 := Nat.xor_lt_two_pow (n := 8) (by omega) (by have := HAT.out; omega)
        have hput := R_put8 hv14 (x := ((b ^^^ tn : Nat) : Int)) hjl
        obtain ⟨E, hE⟩ : ∃ E, fb.set (a % bl) ((b ^^^ tn : Nat) : Int) = E := ⟨_, rfl⟩
        have HEB : Aside0 (Bytes E ∧ E.length = bl) := ⟨by
          rw [← hE]
          refine ⟨fun y hy => ?_, by rw [List.length_set, HBL.out.1]⟩
          rcases List.mem_or_eq_of_mem_set hy with h | h
          · exact HFBB.out y h
          · rw [h]; omega⟩
        rw [hE, HBL.out.1] at hput
        have HCE : Aside0 (bl ≤ ce2) := ⟨by have := (Ru_C hv14).2.1; rw [HBL.out.1] at this; exact this⟩
        have H15 := Aside0.mk ((H12.out.box _).row (hbw14.setCell (p := ⟨ge, a % bl, none⟩) hge _) hput)
        have hbl1 : (1 : Int) ≤ (bl : Int) := by omega
        have hj1 : (0 : Int) ≤ ((a % bl : Nat) : Int) := by omega
        have hj2 : ((a % bl : Nat) : Int) < (bl : Int) := by have := Nat.mod_lt a (show 0 < bl by omega); omega
        have ha0 : (0 : Int) ≤ (a : Int) := by omega
        have ha1 : (a : Int) ≤ 65535 := by have := HAT.out; omega
        have ht1 : (tn : Int) ≤ 255 := by have := HAT.out; omega
        rw [HBL.out.1]
        have HJE := Lib.hid hje
        clear hown hv14 hbw14 hbe hE hput hge hgl hjl H12
        generalize a % bl = j0 at *
        have hje2 := HJE.out
        clear HJE hje
        cases md with
        | false =>
          go_wp2_with fail
          obtain ⟨W15, hW15⟩ : ∃ W, w14.setCell ⟨ge, j0, none⟩ (.int .u8 ((b ^^^ tn : Nat) : Int)) = W := ⟨_, rfl⟩
          have hsz : w14.heap.size = W15.heap.size := by rw [← hW15]; simp [World.setCell]
          rw [hW15] at H15
          rw [hW15]
          try rw [hsz]
          clear hsz hW15 hcq hfq hx hje2 hj1 hj2
          go_meet
          exact ⟨E, some ⟨ge, 0, none⟩, ce2, by rw [HEB.out.2], ⟨by rw [HEB.out.2]; exact HCE.out, HEB.out.1, by rw [HEB.out.2]; exact HBP.out.2, by rw [HEB.out.2]; exact H15.out⟩⟩
        | true =>
          have d4b : wrap64 ((bl : Int) - 4) = ((bl - 4 : Nat) : Int) := by rw [IntWalk.wrap64_in _ (by have := HBP.out; omega)]; have := HBP.out; omega
          obtain ⟨b4, hb4⟩ : ∃ m, bl - 4 = m := ⟨_, rfl⟩
          rw [hb4] at d4b
          have HB4 : Aside0 (b4 + 4 = bl) := ⟨by have := HBP.out; omega⟩
          obtain ⟨x1, x2⟩ := cut_h (P := Try.prog) .u8 .i64 23 5 1 Try.underlying23 np_info (some ⟨ge, 0, none⟩) bl ce2 b4 (by omega) HCE.out
          have HC4 : Aside0 (∀ w : World, (Kd.int .u8).C w (some ⟨ge, 0, none⟩) bl E → (Kd.int .u8).C w (some ⟨ge, 0, none⟩) b4 (E.take b4)) := ⟨fun w h => x2 w E h⟩
          have hp4 : (b4 : Int) ≤ 81 := by have := HBP.out; omega
          clear x2 hb4
          go_wp2_with fail
          obtain ⟨W15, hW15⟩ : ∃ W, w14.setCell ⟨ge, j0, none⟩ (.int .u8 ((b ^^^ tn : Nat) : Int)) = W := ⟨_, rfl⟩
          have hsz : w14.heap.size = W15.heap.size := by rw [← hW15]; simp [World.setCell]
          rw [hW15] at H15
          rw [hW15]
          try rw [hsz]
          clear hsz hW15 hcq hfq hx hje2 hj1 hj2
          refine (refseal_any (some ⟨ge, 0, none⟩) b4 ce2 (E.take b4) _ (HC4.out _ (Ru_C (H15.out.fact (i := 0) rfl)).2.2) (by have := HB4.out; have := HCE.out; omega) (HEB.out.1.take b4) (by omega)).mono ?_
          rintro e w16 ⟨v16, rfl, hv16, hb16⟩
          rw [show E.take b4 ++ tailL (sumN tab (E.take b4)) = sealL (E.take b4) from rfl] at hv16
          obtain ⟨Am, cm, rfl, hcm, _⟩ := Kd.R_reads hv16
          have H16 := Aside0.mk (H15.out.row hb16 hv16)
          have HML : Aside0 ((sealL (E.take b4)).length = bl) := ⟨by rw [sealL_len, List.length_take, HEB.out.2]; have := HB4.out; omega⟩
          have HEF : Aside0 (Bytes (sealL (E.take b4)) ∧ (sealL (E.take b4)).length ≤ 81) := ⟨sealL_bytes (HEB.out.1.take b4), by rw [HML.out]; exact HBP.out.2⟩
          obtain ⟨E2, hE2⟩ : ∃ E2, sealL (E.take b4) = E2 := ⟨_, rfl⟩
          rw [hE2] at H16 HML HEF hcm
          rw [hE2]
          rw [HML.out] at H16 hcm
          rw [HML.out]
          have HCM := Aside0.mk hcm
          clear hv16 hb16 hcm H15 x1 d4b HC4 hE2
          go_wp2_with fail
          go_meet
          exact ⟨E2, Am, cm, by rw [HML.out], ⟨by rw [HML.out]; exact HCM.out, HEF.out.1, HEF.out.2, by
            rw [HML.out]
            refine H16.out.drop (fun φ hφ => ?_)
            simp only [List.mem_cons, List.not_mem_nil, or_false] at hφ ⊢
            rcases hφ with rfl | rfl | rfl | rfl | rfl <;> simp⟩⟩
    case rest =>
      clear hd0 hd1 H6
      obtain ⟨E, Af, cf, rfl, hE⟩ := hcut
      have HEF : Aside0 (Bytes E ∧ E.length ≤ 81) := ⟨hE.out.2.1, hE.out.2.2.1⟩
      have HH := Aside0.mk hE.out.2.2.2
      have HCF := Aside0.mk hE.out.1
      obtain ⟨el, hel⟩ : ∃ n, E.length = n := ⟨_, rfl⟩
      rw [hel] at HH HCF
      rw [hel]
      clear hE hel
      go_wp2_with fail
      refine (join_any _ 2 2 [fb, Q] _ (C_of_two (blk_new _ _) (Kd.C_alloc (Ru_C (HH.out.fact (i := 1) rfl)).2.2 _) HBL.out.2 (Kd.C_alloc (Ru_C (HH.out.fact (i := 2) rfl)).2.2 _) HQL.out.2) (Nat.le_refl _) (by have h1 := HBL.out.1; have h2 := HDL.out.2.2; have h3 := HB81.out; simp; omega)).mono ?_
      rintro e x1 ⟨v1, rfl, hv1, hbx1⟩
      rw [show [fb, Q].flatten = fb ++ Q by simp] at hv1
      obtain ⟨Aj, cj, rfl, hcj, _⟩ := Kd.R_reads hv1
      have HJ := Aside0.mk ((HH.out.box _).row hbx1 hv1)
      have HCJ := Aside0.mk hcj
      clear hbx1 hv1 hcj HH
      obtain ⟨jl, hjl⟩ : ∃ jl, (fb ++ Q).length = jl := ⟨_, rfl⟩
      rw [hjl] at HJ HCJ
      rw [hjl]
      clear hjl
      go_wp2_with fail
      refine (refseal_any Aq ql cq Q x1 (Ru_C (HJ.out.fact (i := 3) rfl)).2.2 HQL.out.2 HDB.out.2.2 (by have := HDL.out.2.2; have := HQL.out.1; omega)).mono ?_
      rintro e x2 ⟨v2, rfl, hv2, hbx2⟩
      rw [show Q ++ tailL (sumN tab Q) = sealL Q from rfl] at hv2
      obtain ⟨As, cs_, rfl, hcs, _⟩ := Kd.R_reads hv2
      have HK := Aside0.mk (HJ.out.row hbx2 hv2)
      have HCS := Aside0.mk hcs
      clear hbx2 hv2 hcs HJ
      obtain ⟨sl, hsl⟩ : ∃ sl, (sealL Q).length = sl := ⟨_, rfl⟩
      have HSL := Aside0.mk hsl
      rw [hsl] at HK HCS
      rw [hsl]
      clear hsl
      go_wp2_with fail
      obtain ⟨g0, hg0⟩ : ∃ g0, x2.heap.size = g0 := ⟨_, rfl⟩
      have HX := Aside0.mk (HK.out.box (.cells #[.slice Af el cf, .slice Aq ql cq, .slice Aj jl cj, .slice As sl cs_] 23))
      have HC3 : (Kd.slice 5 (Kd.int .u8)).C (x2.alloc (.cells #[.slice Af el cf, .slice Aq ql cq, .slice Aj jl cj, .slice As sl cs_] 23)) (some ⟨g0, 0, none⟩) 4 [E, Q, fb ++ Q, sealL Q] := by
        subst hg0
        exact C_of_four (blk_new _ _) (Kd.C_alloc (Ru_C (HK.out.fact (i := 2) rfl)).2.2 _) HCF.out (Kd.C_alloc (Ru_C (HK.out.fact (i := 4) rfl)).2.2 _) HQL.out.2 (Kd.C_alloc (Ru_C (HK.out.fact (i := 1) rfl)).2.2 _) HCJ.out (Kd.C_alloc (Ru_C (HK.out.fact (i := 0) rfl)).2.2 _) HCS.out
      have HALL : Aside0 (∀ y ∈ [E, Q, fb ++ Q, sealL Q], Bytes y ∧ y.length ≤ 1000) := ⟨by
        have h1 := HB81.out
        have h2 := HDL.out.2.2
        have h4 := HBL.out.1
        intro y hy
        simp only [List.mem_cons, List.not_mem_nil, or_false] at hy
        rcases hy with rfl | rfl | rfl | rfl
        · exact ⟨HEF.out.1, by have := HEF.out.2; omega⟩
        · exact ⟨HDB.out.2.2, by omega⟩
        · exact ⟨HFBB.out.append HDB.out.2.2, by rw [List.length_append]; omega⟩
        · exact ⟨sealL_bytes HDB.out.2.2, by rw [sealL_len]; omega⟩⟩
      try rw [hg0]
      have HXD := Aside0.mk (HX.out.fact (i := 6) rfl)
      have HXD' := Aside0.mk (HX.out.fact (i := 5) rfl)
      have HXB := Aside0.mk (HX.out.get (i := 1) rfl)
      have HXG := Aside0.mk (HX.out.get (i := 0) rfl)
      have HXL : Aside0 (Below B w00 (x2.alloc (.cells #[.slice Af el cf, .slice Aq ql cq, .slice Aj jl cj, .slice As sl cs_] 23)) ∧ B ≤ (x2.alloc (.cells #[.slice Af el cf, .slice Aq ql cq, .slice Aj jl cj, .slice As sl cs_] 23)).heap.size) := ⟨HX.out.bel, HX.out.le⟩
      clear HX
      generalize x2.alloc (.cells #[.slice Af el cf, .slice Aq ql cq, .slice Aj jl cj, .slice As sl cs_] 23) = X at *
      obtain ⟨LL, hLL⟩ : ∃ LL, [E, Q, fb ++ Q, sealL Q] = LL := ⟨_, rfl⟩
      have H3L : Aside0 (LL.length = 4) := ⟨by rw [← hLL]; rfl⟩
      rw [hLL] at HC3 HALL
      have HFL : Aside0 (∀ z, Below X.heap.size X z → (Kd.slice 5 (Kd.int .u8)).C z (some ⟨g0, 0, none⟩) 4 LL) := ⟨fun z hz => Kd.C_below HC3 hz⟩
      clear hLL HC3 HK hg0
      go_loopw [100] (fun v100 wr => ∃ j : Nat, j ≤ 4 ∧ v100 = .int .i64 j ∧ Aside0 (Below X.heap.size X wr)) (fun v100 _ => 4 - (intOf v100).toNat)
      case atStart => exact ⟨0, by omega, rfl, ⟨Below.refl _ _⟩⟩
      case round =>
        obtain ⟨j, hj, rfl, HR⟩ := hrel
        by_cases hlt : j < 4
        · have d1 : decide (j < 4) = true := decide_eq_true hlt
          have hj3 : (j : Int) < 4 := by omega
          have hj0 : (0 : Int) ≤ j := by omega
          obtain ⟨Ax, cx, hcell, hcx, hCx⟩ := rows_at (HFL.out wr HR.out) j (by have := H3L.out; omega)
          obtain ⟨q, hq⟩ : ∃ q, LL[j]'(by have := H3L.out; omega) = q := ⟨_, rfl⟩
          have HBQ := Aside0.mk (HALL.out q (by rw [← hq]; exact List.getElem_mem _))
          rw [hq] at hcell hcx hCx
          obtain ⟨xl, hxl⟩ : ∃ xl, q.length = xl := ⟨_, rfl⟩
          have HXN := Aside0.mk hxl
          rw [hxl] at hcell hcx hCx
          have HFX : Aside0 (∀ z, Below wr.heap.size wr z → (Kd.int .u8).C z Ax xl q) := ⟨fun z hz => Kd.C_below hCx hz⟩
          have HCX := Aside0.mk hcx
          clear hcx hCx hq hxl
          go_wp2_with fail
          clear hcell
          refine (fparse_any Ax xl cx q wr (HFX.out wr (Below.refl _ _)) HCX.out (by have := HBQ.out.2; have := HXN.out; omega) HBQ.out.1).mono ?_
          rintro e y1 ⟨⟨u1, rfl, hu1⟩, hby1⟩
          obtain ⟨A5, c5, rfl, hc5, hD1⟩ := hu1
          obtain ⟨er, her⟩ : ∃ er, (parseF q).err = er := ⟨_, rfl⟩
          have HER := Aside0.mk her
          rw [her]
          clear her
          have HPD : Aside0 ((parseF q).D.length ≤ 1000000) := ⟨by
            have h := parseF_len q
            have h2 := HBQ.out.2
            omega⟩
          obtain ⟨zep, hz1⟩ : ∃ z, (parseF q).ep = z := ⟨_, rfl⟩
          obtain ⟨zsq, hz2⟩ : ∃ z, (parseF q).sq = z := ⟨_, rfl⟩
          obtain ⟨znx, hz3⟩ : ∃ z, (parseF q).nx = z := ⟨_, rfl⟩
          obtain ⟨zbt, hz4⟩ : ∃ z, (parseF q).bt = z := ⟨_, rfl⟩
          obtain ⟨zfi, hz5⟩ : ∃ z, (parseF q).fi = z := ⟨_, rfl⟩
          obtain ⟨zla, hz6⟩ : ∃ z, (parseF q).la = z := ⟨_, rfl⟩
          obtain ⟨zal, hz7⟩ : ∃ z, (parseF q).al = z := ⟨_, rfl⟩
          obtain ⟨zD, hz8⟩ : ∃ z, (parseF q).D = z := ⟨_, rfl⟩
          have HZ := Aside0.mk (And.intro hz1 (And.intro hz2 (And.intro hz3 (And.intro hz4 (And.intro hz5 (And.intro hz6 (And.intro hz7 hz8)))))))
          rw [hz8] at hc5 hD1 HPD
          rw [hz1, hz2, hz3, hz4, hz5, hz6, hz7, hz8]
          clear hz1 hz2 hz3 hz4 hz5 hz6 hz7 hz8
          obtain ⟨zl, hzl⟩ : ∃ z, zD.length = z := ⟨_, rfl⟩
          have HZL := Aside0.mk hzl
          rw [hzl] at hc5 hD1
          rw [hzl]
          clear hzl
          obtain ⟨g19, hg19⟩ : ∃ g, y1.heap.size = g := ⟨_, rfl⟩
          have hY1 : Below wr.heap.size wr (y1.alloc (.cells #[.int .u16 zep, .int .u16 zsq, .int .u16 znx, .int .u32 zbt, .bool zfi, .bool zla, .bool zal, .slice A5 zl c5] 72)) := below_alloc hby1 _
          have hb19 : (y1.alloc (.cells #[.int .u16 zep, .int .u16 zsq, .int .u16 znx, .int .u32 zbt, .bool zfi, .bool zla, .bool zal, .slice A5 zl c5] 72)).heap[g19]? = some (.cells #[.int .u16 zep, .int .u16 zsq, .int .u16 znx, .int .u32 zbt, .bool zfi, .bool zla, .bool zal, .slice A5 zl c5] 72 (0, 0)) := by subst hg19; exact blk_new _ _
          have hD2 := Kd.C_alloc hD1 (.cells #[.int .u16 zep, .int .u16 zsq, .int .u16 znx, .int .u32 zbt, .bool zfi, .bool zla, .bool zal, .slice A5 zl c5] 72)
          have HY1 := Aside0.mk hY1
          have HD2 := Aside0.mk (And.intro hD2 hb19)
          have HC5 := Aside0.mk hc5
          clear hby1 hD1 hY1 hD2 hb19 hc5
          go_wp2_with fail
          try rw [hg19]
          clear hg19
          generalize y1.alloc (.cells #[.int .u16 zep, .int .u16 zsq, .int .u16 znx, .int .u32 zbt, .bool zfi, .bool zla, .bool zal, .slice A5 zl c5] 72) = Y at *
          refine (rparse11_any Ax xl cx q Y (HFX.out Y HY1.out) HCX.out (by have := HBQ.out.2; have := HXN.out; omega) HBQ.out.1).mono ?_
          rintro e y2 ⟨⟨u2, rfl, hu2⟩, hby2⟩
          rw [HZ.out.1, HZ.out.2.1, HZ.out.2.2.1, HZ.out.2.2.2.1, HZ.out.2.2.2.2.1, HZ.out.2.2.2.2.2.1, HZ.out.2.2.2.2.2.2.1, HZ.out.2.2.2.2.2.2.2] at hu2
          rw [HER.out]
          obtain ⟨A6, c6, rfl, hc6, hR1⟩ := hu2
          rw [HZL.out] at hc6 hR1
          rw [HZL.out]
          obtain ⟨g21, hg21⟩ : ∃ g, y2.heap.size = g := ⟨_, rfl⟩
          have hbY : Below Y.heap.size Y (y2.alloc (.cells #[.int .u16 zep, .int .u16 zsq, .int .u16 znx, .int .u32 zbt, .bool zfi, .bool zla, .bool zal, .slice A6 zl c6] 79)) := below_alloc hby2 _
          have HX3 : Aside0 (Below X.heap.size X (y2.alloc (.cells #[.int .u16 zep, .int .u16 zsq, .int .u16 znx, .int .u32 zbt, .bool zfi, .bool zla, .bool zal, .slice A6 zl c6] 79))) := ⟨(HR.out.trans (HY1.out.mono HR.out.size)).trans (hbY.mono (Nat.le_trans HR.out.size HY1.out.size))⟩
          have hb21 : (y2.alloc (.cells #[.int .u16 zep, .int .u16 zsq, .int .u16 znx, .int .u32 zbt, .bool zfi, .bool zla, .bool zal, .slice A6 zl c6] 79)).heap[g21]? = some (.cells #[.int .u16 zep, .int .u16 zsq, .int .u16 znx, .int .u32 zbt, .bool zfi, .bool zla, .bool zal, .slice A6 zl c6] 79 (0, 0)) := by subst hg21; exact blk_new _ _
          have hb19 := blk_below HD2.out.2 hbY
          have hq1 := Kd.C_below HD2.out.1 hbY
          have hq2 := Kd.C_alloc hR1 (.cells #[.int .u16 zep, .int .u16 zsq, .int .u16 znx, .int .u32 zbt, .bool zfi, .bool zla, .bool zal, .slice A6 zl c6] 79)
          have HQQ : Aside0 (FrC (y2.alloc (.cells #[.int .u16 zep, .int .u16 zsq, .int .u16 znx, .int .u32 zbt, .bool zfi, .bool zla, .bool zal, .slice A6 zl c6] 79)) zep zsq znx zbt zfi zla zal zD (.agg #[.int .u16 zep, .int .u16 zsq, .int .u16 znx, .int .u32 zbt, .bool zfi, .bool zla, .bool zal, .slice A5 zl c5]) ∧ FrC (y2.alloc (.cells #[.int .u16 zep, .int .u16 zsq, .int .u16 znx, .int .u32 zbt, .bool zfi, .bool zla, .bool zal, .slice A6 zl c6] 79)) zep zsq znx zbt zfi zla zal zD (.agg #[.int .u16 zep, .int .u16 zsq, .int .u16 znx, .int .u32 zbt, .bool zfi, .bool zla, .bool zal, .slice A6 zl c6])) := ⟨⟨A5, c5, by rw [HZL.out], by rw [HZL.out]; exact HC5.out, by rw [HZL.out]; exact hq1⟩, ⟨A6, c6, by rw [HZL.out], by rw [HZL.out]; exact hc6, by rw [HZL.out]; exact hq2⟩⟩
          have HBK := Aside0.mk (And.intro hb19 hb21)
          clear hby2 hR1 hbY hb19 hb21 HD2 HY1 HFX hq1 hq2 hc6
          go_wp2_with fail
          try rw [hg21]
          clear hg21
          generalize y2.alloc (.cells #[.int .u16 zep, .int .u16 zsq, .int .u16 znx, .int .u32 zbt, .bool zfi, .bool zla, .bool zal, .slice A6 zl c6] 79) = X3 at *
          have HB19 : Aside0 (∀ z, Below X3.heap.size X3 z → z.heap[g19]? = some (.cells #[.int .u16 zep, .int .u16 zsq, .int .u16 znx, .int .u32 zbt, .bool zfi, .bool zla, .bool zal, .slice A5 zl c5] 72 (0, 0)) ∧ z.heap[g21]? = some (.cells #[.int .u16 zep, .int .u16 zsq, .int .u16 znx, .int .u32 zbt, .bool zfi, .bool zla, .bool zal, .slice A6 zl c6] 79 (0, 0))) := ⟨fun z hz => ⟨blk_below HBK.out.1 hz, blk_below HBK.out.2 hz⟩⟩
          clear HBK
          refine region_grown (W := X3)
            [fun (w : World) (v : Value) => v = .int .i64 er,
             fun (w : World) (v : Value) => v = .int .i64 er,
             fun (w : World) (v : Value) => v = .bool false,
             fun (w : World) (v : Value) => v = .bool false,
             fun (w : World) (v : Value) => v = .agg #[.int .u16 zep, .int .u16 zsq, .int .u16 znx, .int .u32 zbt, .bool zfi, .bool zla, .bool zal, .slice A5 zl c5],
             fun (w : World) (v : Value) => FrC w zep zsq znx zbt zfi zla zal zD v,
             fun (w : World) (v : Value) => v = .agg #[.int .u16 zep, .int .u16 zsq, .int .u16 znx, .int .u32 zbt, .bool zfi, .bool zla, .bool zal, .slice A6 zl c6],
             fun (w : World) (v : Value) => v = .bool true,
             fun (w : World) (v : Value) => v = .bool false,
             fun (w : World) (v : Value) => v = .bool false]
            (fun j => if j = 3 then some false else none)
            [(0, some 114), (1, some 115), (2, some 116), (3, some 117), (4, some 118), (5, some 119), (6, some 120), (7, some 121), (8, some 122), (9, some 123)]
            [3]
            (by kernel_rfl) (by kernel_rfl) (by kernel_rfl) (by kernel_rfl) ?r21_2g ?r21_2s ⟨?r21_2o0, ?r21_2o1, ?r21_2o2, ?r21_2o3, ?r21_2o4, ?r21_2o5, ?r21_2o6, ?r21_2o7, ?r21_2o8, ?r21_2o9, trivial⟩ ?r21_2e
          case r21_2g =>
            intro j hj w v hv
            simp only [List.mem_cons, List.not_mem_nil, or_false] at hj
            rcases hj with rfl
            · have hv' : v = .bool false := hv; rw [hv']; rfl
          case r21_2s =>
            refine ⟨(fun w w' v hb h => h), (fun w w' v hb h => h), (fun w w' v hb h => h), (fun w w' v hb h => h), (fun w w' v hb h => h), (fun w w' v hb h => h.below hb), (fun w w' v hb h => h), (fun w w' v hb h => h), (fun w w' v hb h => h), (fun w w' v hb h => h), trivial⟩
          case r21_2o0 =>
            intro vs w hb hV
            rw [if_pos (by first | kernel_rfl | rfl)]
            generalize hρ : rho _ _ _ vs = ρ
            have e20 : ρ (.tmp 20) = .int .i64 er := by rw [← hρ]; kernel_rfl
            clear hρ hV
            refine runs_val (v := .int .i64 er) (w' := w) ?_ ⟨Below.refl _ _, rfl⟩
            go_simp <;> (first | exact IntWalk.u64_in _ (by omega) | exact IntWalk.u32_in _ (by omega) | exact IntWalk.u16_in _ (by omega) | exact IntWalk.u8_in _ (by omega) | exact IntWalk.i64_in _ (by omega) | skip)
          case r21_2o1 =>
            intro vs w hb hV
            rw [if_pos (by first | kernel_rfl | rfl)]
            generalize hρ : rho _ _ _ vs = ρ
            have e22 : ρ (.tmp 22) = .int .i64 er := by rw [← hρ]; kernel_rfl
            clear hρ hV
            refine runs_val (v := .int .i64 er) (w' := w) ?_ ⟨Below.refl _ _, rfl⟩
            go_simp <;> (first | exact IntWalk.u64_in _ (by omega) | exact IntWalk.u32_in _ (by omega) | exact IntWalk.u16_in _ (by omega) | exact IntWalk.u8_in _ (by omega) | exact IntWalk.i64_in _ (by omega) | skip)
          case r21_2o2 =>
            intro vs w hb hV
            rw [if_pos (by first | kernel_rfl | rfl)]
            generalize hρ : rho _ _ _ vs = ρ
            have d114 : (vs 0) = .int .i64 er := hV 0 (by first | kernel_rfl | rfl)
            have e114 : ρ (.tmp 114) = vs 0 := by rw [← hρ]; kernel_rfl
            rw [d114] at e114; clear d114
            have d115 : (vs 1) = .int .i64 er := hV 1 (by first | kernel_rfl | rfl)
            have e115 : ρ (.tmp 115) = vs 1 := by rw [← hρ]; kernel_rfl
            rw [d115] at e115; clear d115
            clear hρ hV
            refine runs_val (v := .bool false) (w' := w) ?_ ⟨Below.refl _ _, rfl⟩
            go_simp <;> (first | exact IntWalk.u64_in _ (by omega) | exact IntWalk.u32_in _ (by omega) | exact IntWalk.u16_in _ (by omega) | exact IntWalk.u8_in _ (by omega) | exact IntWalk.i64_in _ (by omega) | skip)
          case r21_2o3 =>
            intro vs w hb hV
            rw [if_pos (by first | kernel_rfl | rfl)]
            generalize hρ : rho _ _ _ vs = ρ
            have d116 : (vs 2) = .bool false := hV 2 (by first | kernel_rfl | rfl)
            have e116 : ρ (.tmp 116) = vs 2 := by rw [← hρ]; kernel_rfl
            clear hρ hV
            refine runs_val (v := vs 2) (w' := w) ?_ ⟨Below.refl _ _, d116⟩
            go_simp
          case r21_2o4 =>
            intro vs w hb hV
            rw [if_pos (by first | kernel_rfl | rfl)]
            generalize hρ : rho _ _ _ vs = ρ
            have e19 : ρ (.tmp 19) = .pointer (some ⟨g19, 0, none⟩) := by rw [← hρ]; kernel_rfl
            clear hρ hV
            exact runs_load 72 (.tmp 19) rfl g19 e19 72 #[.int .u16 zep, .int .u16 zsq, .int .u16 znx, .int .u32 zbt, .bool zfi, .bool zla, .bool zal, .slice A5 zl c5] (0, 0) _ (HB19.out w hb).1 Try.underlying72 rfl (frame_info _ _ _ _ _ _ _ _) ⟨Below.refl _ _, rfl⟩
          case r21_2o5 =>
            intro vs w hb hV
            rw [if_pos (by first | kernel_rfl | rfl)]
            generalize hρ : rho _ _ _ vs = ρ
            have d118 : (vs 4) = .agg #[.int .u16 zep, .int .u16 zsq, .int .u16 znx, .int .u32 zbt, .bool zfi, .bool zla, .bool zal, .slice A5 zl c5] := hV 4 (by first | kernel_rfl | rfl)
            have e118 : ρ (.tmp 118) = vs 4 := by rw [← hρ]; kernel_rfl
            rw [d118] at e118; clear d118
            have ef31 : ρ (.func 31) = .func (.func 31) #[] #[] := by rw [← hρ]; rfl
            clear hρ hV
            refine runs_call (f := 31) (args := #[.agg #[.int .u16 zep, .int .u16 zsq, .int .u16 znx, .int .u32 zbt, .bool zfi, .bool zla, .bool zal, .slice A5 zl c5]]) (w' := w) ?_ ?_
            · go_simp
            · refine (own11_any _ _ _ _ _ _ _ _ _ w (HQQ.out.1.below hb)).mono ?_
              rintro e w5 ⟨v, rfl, hv, hb5⟩
              exact ⟨_, rfl, hb5, hv⟩
          case r21_2o6 =>
            intro vs w hb hV
            rw [if_pos (by first | kernel_rfl | rfl)]
            generalize hρ : rho _ _ _ vs = ρ
            have e21 : ρ (.tmp 21) = .pointer (some ⟨g21, 0, none⟩) := by rw [← hρ]; kernel_rfl
            clear hρ hV
            exact runs_load 79 (.tmp 21) rfl g21 e21 79 #[.int .u16 zep, .int .u16 zsq, .int .u16 znx, .int .u32 zbt, .bool zfi, .bool zla, .bool zal, .slice A6 zl c6] (0, 0) _ (HB19.out w hb).2 Try.underlying79 rfl (rframe_info _ _ _ _ _ _ _ _) ⟨Below.refl _ _, rfl⟩
          case r21_2o7 =>
            intro vs w hb hV
            rw [if_pos (by first | kernel_rfl | rfl)]
            generalize hρ : rho _ _ _ vs = ρ
            have d119 : (fun (w : World) (v : Value) => FrC w zep zsq znx zbt zfi zla zal zD v) w (vs 5) := hV 5 (by first | kernel_rfl | rfl)
            have e119 : ρ (.tmp 119) = vs 5 := by rw [← hρ]; kernel_rfl
            have d120 : (vs 6) = .agg #[.int .u16 zep, .int .u16 zsq, .int .u16 znx, .int .u32 zbt, .bool zfi, .bool zla, .bool zal, .slice A6 zl c6] := hV 6 (by first | kernel_rfl | rfl)
            have e120 : ρ (.tmp 120) = vs 6 := by rw [← hρ]; kernel_rfl
            rw [d120] at e120; clear d120
            have ef36 : ρ (.func 36) = .func (.func 36) #[] #[] := by rw [← hρ]; rfl
            clear hρ hV
            refine runs_call (f := 36) (args := #[vs 5, .agg #[.int .u16 zep, .int .u16 zsq, .int .u16 znx, .int .u32 zbt, .bool zfi, .bool zla, .bool zal, .slice A6 zl c6]]) (w' := w) ?_ ?_
            · go_simp
            · refine (rsame11_any _ _ _ _ _ _ _ _ _ _ _ _ _ _ zD zD _ _ w d119 (HQQ.out.2.below hb) HPD.out true (by simp)).mono ?_
              rintro e w5 ⟨rfl, hb5⟩
              exact ⟨_, rfl, hb5, rfl⟩
          case r21_2o8 =>
            intro vs w hb hV
            rw [if_pos (by first | kernel_rfl | rfl)]
            generalize hρ : rho _ _ _ vs = ρ
            have d121 : (vs 7) = .bool true := hV 7 (by first | kernel_rfl | rfl)
            have e121 : ρ (.tmp 121) = vs 7 := by rw [← hρ]; kernel_rfl
            rw [d121] at e121; clear d121
            clear hρ hV
            refine runs_val (v := .bool false) (w' := w) ?_ ⟨Below.refl _ _, rfl⟩
            go_simp <;> (first | exact IntWalk.u64_in _ (by omega) | exact IntWalk.u32_in _ (by omega) | exact IntWalk.u16_in _ (by omega) | exact IntWalk.u8_in _ (by omega) | exact IntWalk.i64_in _ (by omega) | skip)
          case r21_2o9 =>
            intro vs w hb hV
            rw [if_pos (by first | kernel_rfl | rfl)]
            generalize hρ : rho _ _ _ vs = ρ
            have d117 : (vs 3) = .bool false := hV 3 (by first | kernel_rfl | rfl)
            have e117 : ρ (.tmp 117) = vs 3 := by rw [← hρ]; kernel_rfl
            rw [d117] at e117; clear d117
            have d122 : (vs 8) = .bool false := hV 8 (by first | kernel_rfl | rfl)
            have e122 : ρ (.tmp 122) = vs 8 := by rw [← hρ]; kernel_rfl
            rw [d122] at e122; clear d122
            have econ : ∀ v : Value, ρ (.const v) = v := fun v => by rw [← hρ]; rfl
            clear hρ hV
            refine runs_val (v := .bool false) (w' := w) ?_ ⟨Below.refl _ _, rfl⟩
            go_simp <;> (first | exact IntWalk.u64_in _ (by omega) | exact IntWalk.u32_in _ (by omega) | exact IntWalk.u16_in _ (by omega) | exact IntWalk.u8_in _ (by omega) | exact IntWalk.i64_in _ (by omega) | skip)
          case r21_2e =>
            intro vs X4 hb4 hV
            have d114 : (vs 0) = .int .i64 er := hV 0 (Nat.le_of_ble_eq_true rfl)
            have d115 : (vs 1) = .int .i64 er := hV 1 (Nat.le_of_ble_eq_true rfl)
            have d116 : (vs 2) = .bool false := hV 2 (Nat.le_of_ble_eq_true rfl)
            have d117 : (vs 3) = .bool false := hV 3 (Nat.le_of_ble_eq_true rfl)
            have d118 : (vs 4) = .agg #[.int .u16 zep, .int .u16 zsq, .int .u16 znx, .int .u32 zbt, .bool zfi, .bool zla, .bool zal, .slice A5 zl c5] := hV 4 (Nat.le_of_ble_eq_true rfl)
            have d119 : (fun (w : World) (v : Value) => FrC w zep zsq znx zbt zfi zla zal zD v) X4 (vs 5) := hV 5 (Nat.le_of_ble_eq_true rfl)
            have d120 : (vs 6) = .agg #[.int .u16 zep, .int .u16 zsq, .int .u16 znx, .int .u32 zbt, .bool zfi, .bool zla, .bool zal, .slice A6 zl c6] := hV 6 (Nat.le_of_ble_eq_true rfl)
            have d121 : (vs 7) = .bool true := hV 7 (Nat.le_of_ble_eq_true rfl)
            have d122 : (vs 8) = .bool false := hV 8 (Nat.le_of_ble_eq_true rfl)
            have d123 : (vs 9) = .bool false := hV 9 (Nat.le_of_ble_eq_true rfl)
            clear hV
            simp only [putAll]
            rw [d114, d115, d116, d117, d118, d120, d121, d122, d123]
            clear d114 d115 d116 d117 d118 d120 d121 d122 d123
            generalize vs 5 = v119 at *
            clear vs
            simp only [Act.put, List.setIfInBounds_toArray, List.set_cons_zero, List.set_cons_succ]
            have HX4 : Aside0 (Below X.heap.size X X4) := ⟨HX3.out.trans (hb4.mono HX3.out.size)⟩
            clear hb4 d119 HX3
            go_wp2_with fail
            go_roundw
            case rel => exact ⟨j + 1, by omega, rfl, HX4⟩
            case measure => simp only [intOf]; omega
        · obtain rfl : j = 4 := by omega
          go_wp2_with fail
          have HXF : Aside0 (∀ z, Below wr.heap.size wr z → FrC z ep sq nx bt fi la al D (.agg #[.int .u16 ep, .int .u16 sq, .int .u16 nx, .int .u32 bt, .bool fi, .bool la, .bool al, .slice Ad dn cd]) ∧ FrC z ep' sq' nx' bt' fi' la' al' D' (.agg #[.int .u16 ep', .int .u16 sq', .int .u16 nx', .int .u32 bt', .bool fi', .bool la', .bool al', .slice Ae dn' ce]) ∧ z.heap[B]? = some (.cells #[.int .u16 ep, .int .u16 sq, .int .u16 nx, .int .u32 bt, .bool fi, .bool la, .bool al, .slice Ad dn cd] 72 (0, 0)) ∧ z.heap[gb]? = some (.cells #[.int .u16 ep', .int .u16 sq', .int .u16 nx', .int .u32 bt', .bool fi', .bool la', .bool al', .slice Ae dn' ce] 72 (0, 0))) := ⟨fun z hz => by
            have h0 := HR.out.trans (hz.mono HR.out.size)
            exact ⟨(HFR.out X HXD.out).below h0, (HFR'.out X HXD'.out).below h0, blk_below HXB.out h0, blk_below HXG.out h0⟩⟩
          clear HFL HALL HXD HXD' HXB HXG
          obtain ⟨β, hβ⟩ : ∃ β : Bool, β = true ↔ (ep : Int) = ep' ∧ (sq : Int) = sq' ∧ (nx : Int) = nx' ∧ (bt : Int) = bt' ∧ (fi = fi' ∧ la = la' ∧ al = al') ∧ D = D' := ⟨decide _, decide_eq_true_iff⟩
          have HBE := Aside0.mk hβ
          clear hβ
          refine region_grown (W := wr)
            [fun (w : World) (v : Value) => v = .agg #[.int .u16 ep, .int .u16 sq, .int .u16 nx, .int .u32 bt, .bool fi, .bool la, .bool al, .slice Ad dn cd],
             fun (w : World) (v : Value) => v = .agg #[.int .u16 ep', .int .u16 sq', .int .u16 nx', .int .u32 bt', .bool fi', .bool la', .bool al', .slice Ae dn' ce],
             fun (w : World) (v : Value) => v = .bool β,
             fun (w : World) (v : Value) => v = .agg #[.int .u16 ep, .int .u16 sq, .int .u16 nx, .int .u32 bt, .bool fi, .bool la, .bool al, .slice Ad dn cd],
             fun (w : World) (v : Value) => FrC w ep sq nx bt fi la al D v,
             fun (w : World) (v : Value) => v = .agg #[.int .u16 ep', .int .u16 sq', .int .u16 nx', .int .u32 bt', .bool fi', .bool la', .bool al', .slice Ae dn' ce],
             fun (w : World) (v : Value) => FrC w ep' sq' nx' bt' fi' la' al' D' v,
             fun (w : World) (v : Value) => v = .bool β,
             fun (w : World) (v : Value) => v = .bool true,
             fun (w : World) (v : Value) => v = .bool true]
            (fun j =>  none)
            [(0, some 125), (1, some 126), (2, some 127), (3, some 128), (4, some 129), (5, some 130), (6, some 131), (7, some 132), (8, some 133), (9, some 12)]
            []
            (by kernel_rfl) (by kernel_rfl) (by kernel_rfl) (by kernel_rfl) ?r24_3g ?r24_3s ⟨?r24_3o0, ?r24_3o1, ?r24_3o2, ?r24_3o3, ?r24_3o4, ?r24_3o5, ?r24_3o6, ?r24_3o7, ?r24_3o8, ?r24_3o9, trivial⟩ ?r24_3e
          case r24_3g =>
            intro j hj; cases hj
          case r24_3s =>
            refine ⟨(fun w w' v hb h => h), (fun w w' v hb h => h), (fun w w' v hb h => h), (fun w w' v hb h => h), (fun w w' v hb h => h.below hb), (fun w w' v hb h => h), (fun w w' v hb h => h.below hb), (fun w w' v hb h => h), (fun w w' v hb h => h), (fun w w' v hb h => h), trivial⟩
          case r24_3o0 =>
            intro vs w hb hV
            rw [if_pos (by first | kernel_rfl | rfl)]
            generalize hρ : rho _ _ _ vs = ρ
            have e6 : ρ (.tmp 6) = .pointer (some ⟨B, 0, none⟩) := by rw [← hρ]; kernel_rfl
            clear hρ hV
            exact runs_load 72 (.tmp 6) rfl B e6 72 #[.int .u16 ep, .int .u16 sq, .int .u16 nx, .int .u32 bt, .bool fi, .bool la, .bool al, .slice Ad dn cd] (0, 0) _ (HXF.out w hb).2.2.1 Try.underlying72 rfl (frame_info _ _ _ _ _ _ _ _) ⟨Below.refl _ _, rfl⟩
          case r24_3o1 =>
            intro vs w hb hV
            rw [if_pos (by first | kernel_rfl | rfl)]
            generalize hρ : rho _ _ _ vs = ρ
            have e11 : ρ (.tmp 11) = .pointer (some ⟨gb, 0, none⟩) := by rw [← hρ]; kernel_rfl
            clear hρ hV
            exact runs_load 72 (.tmp 11) rfl gb e11 72 #[.int .u16 ep', .int .u16 sq', .int .u16 nx', .int .u32 bt', .bool fi', .bool la', .bool al', .slice Ae dn' ce] (0, 0) _ (HXF.out w hb).2.2.2 Try.underlying72 rfl (frame_info _ _ _ _ _ _ _ _) ⟨Below.refl _ _, rfl⟩
          case r24_3o2 =>
            intro vs w hb hV
            rw [if_pos (by first | kernel_rfl | rfl)]
            generalize hρ : rho _ _ _ vs = ρ
            have d125 : (vs 0) = .agg #[.int .u16 ep, .int .u16 sq, .int .u16 nx, .int .u32 bt, .bool fi, .bool la, .bool al, .slice Ad dn cd] := hV 0 (by first | kernel_rfl | rfl)
            have e125 : ρ (.tmp 125) = vs 0 := by rw [← hρ]; kernel_rfl
            rw [d125] at e125; clear d125
            have d126 : (vs 1) = .agg #[.int .u16 ep', .int .u16 sq', .int .u16 nx', .int .u32 bt', .bool fi', .bool la', .bool al', .slice Ae dn' ce] := hV 1 (by first | kernel_rfl | rfl)
            have e126 : ρ (.tmp 126) = vs 1 := by rw [← hρ]; kernel_rfl
            rw [d126] at e126; clear d126
            have ef33 : ρ (.func 33) = .func (.func 33) #[] #[] := by rw [← hρ]; rfl
            clear hρ hV
            refine runs_call (f := 33) (args := #[.agg #[.int .u16 ep, .int .u16 sq, .int .u16 nx, .int .u32 bt, .bool fi, .bool la, .bool al, .slice Ad dn cd], .agg #[.int .u16 ep', .int .u16 sq', .int .u16 nx', .int .u32 bt', .bool fi', .bool la', .bool al', .slice Ae dn' ce]]) (w' := w) ?_ ?_
            · go_simp
            · refine (fsame_any _ _ _ _ _ _ _ _ _ _ _ _ _ _ D D' _ _ w (HXF.out w hb).1 (HXF.out w hb).2.1 HDB.out.1 HDB.out.2.1 β HBE.out).mono ?_
              rintro e w5 ⟨rfl, hb5⟩
              exact ⟨_, rfl, hb5, rfl⟩
          case r24_3o3 =>
            intro vs w hb hV
            rw [if_pos (by first | kernel_rfl | rfl)]
            generalize hρ : rho _ _ _ vs = ρ
            have e6 : ρ (.tmp 6) = .pointer (some ⟨B, 0, none⟩) := by rw [← hρ]; kernel_rfl
            clear hρ hV
            exact runs_load 72 (.tmp 6) rfl B e6 72 #[.int .u16 ep, .int .u16 sq, .int .u16 nx, .int .u32 bt, .bool fi, .bool la, .bool al, .slice Ad dn cd] (0, 0) _ (HXF.out w hb).2.2.1 Try.underlying72 rfl (frame_info _ _ _ _ _ _ _ _) ⟨Below.refl _ _, rfl⟩
          case r24_3o4 =>
            intro vs w hb hV
            rw [if_pos (by first | kernel_rfl | rfl)]
            generalize hρ : rho _ _ _ vs = ρ
            have d128 : (vs 3) = .agg #[.int .u16 ep, .int .u16 sq, .int .u16 nx, .int .u32 bt, .bool fi, .bool la, .bool al, .slice Ad dn cd] := hV 3 (by first | kernel_rfl | rfl)
            have e128 : ρ (.tmp 128) = vs 3 := by rw [← hρ]; kernel_rfl
            rw [d128] at e128; clear d128
            have ef31 : ρ (.func 31) = .func (.func 31) #[] #[] := by rw [← hρ]; rfl
            clear hρ hV
            refine runs_call (f := 31) (args := #[.agg #[.int .u16 ep, .int .u16 sq, .int .u16 nx, .int .u32 bt, .bool fi, .bool la, .bool al, .slice Ad dn cd]]) (w' := w) ?_ ?_
            · go_simp
            · refine (own11_any _ _ _ _ _ _ _ _ _ w (HXF.out w hb).1).mono ?_
              rintro e w5 ⟨v, rfl, hv, hb5⟩
              exact ⟨_, rfl, hb5, hv⟩
          case r24_3o5 =>
            intro vs w hb hV
            rw [if_pos (by first | kernel_rfl | rfl)]
            generalize hρ : rho _ _ _ vs = ρ
            have e11 : ρ (.tmp 11) = .pointer (some ⟨gb, 0, none⟩) := by rw [← hρ]; kernel_rfl
            clear hρ hV
            exact runs_load 72 (.tmp 11) rfl gb e11 72 #[.int .u16 ep', .int .u16 sq', .int .u16 nx', .int .u32 bt', .bool fi', .bool la', .bool al', .slice Ae dn' ce] (0, 0) _ (HXF.out w hb).2.2.2 Try.underlying72 rfl (frame_info _ _ _ _ _ _ _ _) ⟨Below.refl _ _, rfl⟩
          case r24_3o6 =>
            intro vs w hb hV
            rw [if_pos (by first | kernel_rfl | rfl)]
            generalize hρ : rho _ _ _ vs = ρ
            have d130 : (vs 5) = .agg #[.int .u16 ep', .int .u16 sq', .int .u16 nx', .int .u32 bt', .bool fi', .bool la', .bool al', .slice Ae dn' ce] := hV 5 (by first | kernel_rfl | rfl)
            have e130 : ρ (.tmp 130) = vs 5 := by rw [← hρ]; kernel_rfl
            rw [d130] at e130; clear d130
            have ef31 : ρ (.func 31) = .func (.func 31) #[] #[] := by rw [← hρ]; rfl
            clear hρ hV
            refine runs_call (f := 31) (args := #[.agg #[.int .u16 ep', .int .u16 sq', .int .u16 nx', .int .u32 bt', .bool fi', .bool la', .bool al', .slice Ae dn' ce]]) (w' := w) ?_ ?_
            · go_simp
            · refine (own11_any _ _ _ _ _ _ _ _ _ w (HXF.out w hb).2.1).mono ?_
              rintro e w5 ⟨v, rfl, hv, hb5⟩
              exact ⟨_, rfl, hb5, hv⟩
          case r24_3o7 =>
            intro vs w hb hV
            rw [if_pos (by first | kernel_rfl | rfl)]
            generalize hρ : rho _ _ _ vs = ρ
            have d129 : (fun (w : World) (v : Value) => FrC w ep sq nx bt fi la al D v) w (vs 4) := hV 4 (by first | kernel_rfl | rfl)
            have e129 : ρ (.tmp 129) = vs 4 := by rw [← hρ]; kernel_rfl
            have d131 : (fun (w : World) (v : Value) => FrC w ep' sq' nx' bt' fi' la' al' D' v) w (vs 6) := hV 6 (by first | kernel_rfl | rfl)
            have e131 : ρ (.tmp 131) = vs 6 := by rw [← hρ]; kernel_rfl
            have ef36 : ρ (.func 36) = .func (.func 36) #[] #[] := by rw [← hρ]; rfl
            clear hρ hV
            refine runs_call (f := 36) (args := #[vs 4, vs 6]) (w' := w) ?_ ?_
            · go_simp
            · refine (rsame11_any _ _ _ _ _ _ _ _ _ _ _ _ _ _ D D' _ _ w d129 d131 (by have := HDL.out.1; omega) β HBE.out).mono ?_
              rintro e w5 ⟨rfl, hb5⟩
              exact ⟨_, rfl, hb5, rfl⟩
          case r24_3o8 =>
            intro vs w hb hV
            rw [if_pos (by first | kernel_rfl | rfl)]
            generalize hρ : rho _ _ _ vs = ρ
            have d127 : (vs 2) = .bool β := hV 2 (by first | kernel_rfl | rfl)
            have e127 : ρ (.tmp 127) = vs 2 := by rw [← hρ]; kernel_rfl
            rw [d127] at e127; clear d127
            have d132 : (vs 7) = .bool β := hV 7 (by first | kernel_rfl | rfl)
            have e132 : ρ (.tmp 132) = vs 7 := by rw [← hρ]; kernel_rfl
            rw [d132] at e132; clear d132
            clear hρ hV
            refine runs_val (v := .bool true) (w' := w) ?_ ⟨Below.refl _ _, rfl⟩
            go_simp <;> (first | exact IntWalk.u64_in _ (by omega) | exact IntWalk.u32_in _ (by omega) | exact IntWalk.u16_in _ (by omega) | exact IntWalk.u8_in _ (by omega) | exact IntWalk.i64_in _ (by omega) | skip)
          case r24_3o9 =>
            intro vs w hb hV
            rw [if_pos (by first | kernel_rfl | rfl)]
            generalize hρ : rho _ _ _ vs = ρ
            have d133 : (vs 8) = .bool true := hV 8 (by first | kernel_rfl | rfl)
            have e133 : ρ (.tmp 133) = vs 8 := by rw [← hρ]; kernel_rfl
            clear hρ hV
            refine runs_val (v := vs 8) (w' := w) ?_ ⟨Below.refl _ _, d133⟩
            go_simp
          case r24_3e =>
            intro vs X9 hb9 hV
            have d125 : (vs 0) = .agg #[.int .u16 ep, .int .u16 sq, .int .u16 nx, .int .u32 bt, .bool fi, .bool la, .bool al, .slice Ad dn cd] := hV 0 (Nat.le_of_ble_eq_true rfl)
            have d126 : (vs 1) = .agg #[.int .u16 ep', .int .u16 sq', .int .u16 nx', .int .u32 bt', .bool fi', .bool la', .bool al', .slice Ae dn' ce] := hV 1 (Nat.le_of_ble_eq_true rfl)
            have d127 : (vs 2) = .bool β := hV 2 (Nat.le_of_ble_eq_true rfl)
            have d128 : (vs 3) = .agg #[.int .u16 ep, .int .u16 sq, .int .u16 nx, .int .u32 bt, .bool fi, .bool la, .bool al, .slice Ad dn cd] := hV 3 (Nat.le_of_ble_eq_true rfl)
            have d129 : (fun (w : World) (v : Value) => FrC w ep sq nx bt fi la al D v) X9 (vs 4) := hV 4 (Nat.le_of_ble_eq_true rfl)
            have d130 : (vs 5) = .agg #[.int .u16 ep', .int .u16 sq', .int .u16 nx', .int .u32 bt', .bool fi', .bool la', .bool al', .slice Ae dn' ce] := hV 5 (Nat.le_of_ble_eq_true rfl)
            have d131 : (fun (w : World) (v : Value) => FrC w ep' sq' nx' bt' fi' la' al' D' v) X9 (vs 6) := hV 6 (Nat.le_of_ble_eq_true rfl)
            have d132 : (vs 7) = .bool β := hV 7 (Nat.le_of_ble_eq_true rfl)
            have d133 : (vs 8) = .bool true := hV 8 (Nat.le_of_ble_eq_true rfl)
            have d12 : (vs 9) = .bool true := hV 9 (Nat.le_of_ble_eq_true rfl)
            clear hV
            simp only [putAll]
            rw [d125, d126, d127, d128, d130, d132, d133, d12]
            clear d125 d126 d127 d128 d130 d132 d133 d12
            generalize vs 4 = v129 at *
            generalize vs 6 = v131 at *
            clear vs
            simp only [Act.put, List.setIfInBounds_toArray, List.set_cons_zero, List.set_cons_succ]
            have hbF : Below B w00 X9 := (HXL.out.1.trans (HR.out.mono HXL.out.2)).trans (hb9.mono (Nat.le_trans HXL.out.2 HR.out.size))
            have HBF := Aside0.mk hbF
            clear hb9 d129 d131 hbF
            go_wp2_with fail
            go_ret
            exact ⟨rfl, HBF.out⟩
end Go.Proofs.Yticpjidcgaaldaa
