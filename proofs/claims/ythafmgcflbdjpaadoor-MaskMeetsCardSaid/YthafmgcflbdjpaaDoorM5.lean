/- MaskMeets: the walk. -/
import Derived.Test.YthafmgcflbdjpaaDoorMm
import Derived.Test.YthafmgcflbdjpaaDoorA
namespace Go.Proofs.YthafmgcflbdjpaaDoor
open Go.RowKit Go.Shelf Go.Proofs.YthafmgcflbdjpaaDoorW.PrintWords Go.Proofs.YthafmgcflbdjpaaDoorW.PrintLast Go.Proofs.YthafmgcflbdjpaaDoorW.PrintMore
set_option linter.unusedVariables false
set_option linter.unusedSimpArgs false

theorem tri_R {w0 W : World} {a b c : Value} {X Y Z : List Int} (h : Tri w0 W a b c X Y Z) : (Kd.int .i64).R 3 W w0.heap.size (fun _ => True) a X := h.1.1
theorem tri_B {w0 W : World} {a b c : Value} {X Y Z : List Int} (h : Tri w0 W a b c X Y Z) : Below w0.heap.size w0 W := h.2.2
theorem tri_0 (w0 : World) : Tri w0 w0 (.slice none 0 0) (.slice none 0 0) (.slice none 0 0) [] [] [] :=
  ⟨⟨Kd.R_nil _ _ _ _ _, Kd.R_nil _ _ _ _ _, Kd.R_nil _ _ _ _ _⟩, ⟨fun k h => by simp [Value.ownBlock] at h, fun k h => by simp [Value.ownBlock] at h, fun k h => by simp [Value.ownBlock] at h⟩, Below.refl _ _⟩
theorem bel_t5 {w W w' : World} (h : Below w.heap.size w W) (hb : Below W.heap.size W w') : Below w.heap.size w w' := h.trans (hb.mono h.size)
attribute [local irreducible] withN lessN allN hasN textF pop obsI lst Tri
set_option maxHeartbeats 16000000 in
set_option maxRecDepth 100000 in
theorem meets_walk (a b c : Nat) (ha : a < 4294967296) (hb0 : b < 4294967296) (hc0 : c < 4294967296) (A : Option Addr) (cap : Nat) (l : List Int) (w00 : World) (hT : Tabs w00) (hr : (Kd.int .i64).C w00 A l.length l) (hc : l.length ≤ cap) :
    Calls Tryd.prog 5 #[.int .u32 a, .int .u32 b, .int .u32 c, .slice A l.length cap] w00 fun e w' => e = .returned (.bool true) ∧ Below w00.heap.size w00 w' := by
  have HB := Aside0.mk (Below.refl w00.heap.size w00)
  obtain ⟨L, hL⟩ : ∃ L, l.take 40 = L := ⟨_, rfl⟩
  have hL40 : L.length ≤ 40 := by rw [← hL]; simp; omega
  have KF := Aside0.mk (fun (z : World) (h : Below w00.heap.size w00 z) => few_any A cap l z (Kd.C_below hr h) hc)
  rw [hL] at KF
  clear hr hc hL
  obtain ⟨m1, h1⟩ : ∃ x, a &&& b &&& c = x := ⟨_, rfl⟩
  obtain ⟨m2, h2⟩ : ∃ x, a ||| b ||| c = x := ⟨_, rfl⟩
  obtain ⟨m3, h3⟩ : ∃ x, lessN a b = x := ⟨_, rfl⟩
  have l1 : m1 < 4294967296 := by rw [← h1]; exact and_lt (and_lt ha)
  have l2 : m2 < 4294967296 := by rw [← h2]; exact or_lt (or_lt ha hb0) hc0
  have l3 : m3 < 4294967296 := by rw [← h3]; exact lessN_lt ha
  have B1 := Aside0.mk (fun i => meet_bit a b c i)
  have B2 := Aside0.mk (fun i => join_bit a b c i)
  have B3 := Aside0.mk (fun (i : Nat) (hi : i < 32) => lessN_bit a b i hb0 hi)
  have KM := Aside0.mk (meet2_any a b c ha hb0 hc0)
  have KJ := Aside0.mk (join2_any a b c ha hb0 hc0)
  have KL := Aside0.mk (less_any a b ha hb0)
  have KW := Aside0.mk (within_any a b ha hb0)
  rw [within_lst ha hb0] at KW
  have K0 : Aside0 (∀ w : World, Calls Tryd.prog 22 #[.int .u32 a, .int .u32 0] w fun e w' => e = .returned (.int .u32 (a : Nat)) ∧ Below w.heap.size w w') := ⟨fun w => by
    have h := less_any a 0 ha (by omega) w
    rw [less0 ha] at h
    exact h⟩
  rw [h1] at B1 KM
  rw [h2] at B2 KJ
  rw [h3] at B3 KL KW
  clear h1 h2 h3
  have LA : (obsI a).length ≤ 32 := by rw [obsI_length]; exact obsF_len a
  have LB : (obsI b).length ≤ 32 := by rw [obsI_length]; exact obsF_len b
  have LC : (obsI c).length ≤ 32 := by rw [obsI_length]; exact obsF_len c
  go_enter Tryd.func5, Tryd.ntmps5
  go_wp2_with (first
    | (go_at_call 7; (with_reducible refine (awake_any _ (hT.below HB.out)).mono ?_); rintro e w3 ⟨rfl, hb⟩; replace HB := Aside0.mk (bel_t5 HB.out hb); clear hb)
    | (go_at_call 8; (with_reducible refine (KF.out _ HB.out).mono ?_); rintro e w3 ⟨A0, c0, rfl, hc1, -, hC1, hb⟩; have HL := Aside0.mk (And.intro hc1 hC1); clear hc1 hC1; replace HB := Aside0.mk (bel_t5 HB.out hb); clear hb)
    | (go_at_call 10; (with_reducible refine (list_any a ha _).mono ?_); rintro e w3 ⟨A1, c1, rfl, hc1, hR1, hC1, hb⟩; have HX := Aside0.mk (And.intro hc1 hC1); have HXR := Aside0.mk (Kd.R_lower hR1 HB.out.size); clear hc1 hC1 hR1; replace HL := Aside0.mk (And.intro HL.out.1 (Kd.C_below HL.out.2 hb)); replace HB := Aside0.mk (bel_t5 HB.out hb); clear hb)
    | (go_at_call 10; (with_reducible refine (list_any b hb0 _).mono ?_); rintro e w3 ⟨A2, c2, rfl, hc1, -, hC1, hb⟩; have HY := Aside0.mk (And.intro hc1 hC1); clear hc1 hC1; replace HXR := Aside0.mk (Kd.R_below HXR.out hb); replace HL := Aside0.mk (And.intro HL.out.1 (Kd.C_below HL.out.2 hb)); replace HX := Aside0.mk (And.intro HX.out.1 (Kd.C_below HX.out.2 hb)); replace HB := Aside0.mk (bel_t5 HB.out hb); clear hb)
    | (go_at_call 10; (with_reducible refine (list_any c hc0 _).mono ?_); rintro e w3 ⟨A3, c3, rfl, hc1, -, hC1, hb⟩; have HZ := Aside0.mk (And.intro hc1 hC1); clear hc1 hC1; replace HXR := Aside0.mk (Kd.R_below HXR.out hb); replace HL := Aside0.mk (And.intro HL.out.1 (Kd.C_below HL.out.2 hb)); replace HX := Aside0.mk (And.intro HX.out.1 (Kd.C_below HX.out.2 hb)); replace HY := Aside0.mk (And.intro HY.out.1 (Kd.C_below HY.out.2 hb)); replace HB := Aside0.mk (bel_t5 HB.out hb); clear hb))
  have KX := Aside0.mk (fun (i : Nat) (hi : i < 32) (z : World) (h : Below w3.heap.size w3 z) => in_bit_any A1 c1 a i hi z (Kd.C_below HX.out.2 h) HX.out.1)
  have KY := Aside0.mk (fun (i : Nat) (hi : i < 32) (z : World) (h : Below w3.heap.size w3 z) => in_bit_any A2 c2 b i hi z (Kd.C_below HY.out.2 h) HY.out.1)
  have KZ := Aside0.mk (fun (i : Nat) (hi : i < 32) (z : World) (h : Below w3.heap.size w3 z) => in_bit_any A3 c3 c i hi z (Kd.C_below HZ.out.2 h) HZ.out.1)
  go_loopw [12, 13, 14, 15, 30] (fun v12 v13 v14 v15 v30 wr => ∃ i : Nat, i ≤ 32 ∧ v30 = .int .i64 (i : Int) ∧ v15 = .bool (decide (lst m3 i = [])) ∧ Aside0 (Tri w3 wr v12 v13 v14 (lst m1 i) (lst m2 i) (lst m3 i))) (fun _ _ _ _ v30 _ => (32 - intI v30).toNat)
  case atStart => exact ⟨0, by omega, rfl, by rw [lst_zero]; rfl, ⟨by rw [lst_zero, lst_zero, lst_zero]; exact tri_0 w3⟩⟩
  case round =>
    obtain ⟨i, hi, rfl, rfl, HT⟩ := hrel
    by_cases h : i < 32
    · have E1 := lst_succ m1 i
      have E2 := lst_succ m2 i
      have E3 := lst_succ m3 i
      rw [B1.out] at E1
      rw [B2.out] at E2
      rw [B3.out i h] at E3
      have QX := Aside0.mk (KX.out i h)
      have QY := Aside0.mk (KY.out i h)
      have QZ := Aside0.mk (KZ.out i h)
      generalize hbb : decide (lst m3 i = []) = bb
      have HBB := Aside0.mk hbb
      clear hbb
      cases hp : a.testBit i <;> cases hq : b.testBit i <;> cases hs : c.testBit i
      · rw [hp] at QX; rw [hq] at QY; rw [hs] at QZ
        simp only [hp, hq, hs, Bool.true_and, Bool.and_true, Bool.false_and, Bool.and_false, Bool.true_or, Bool.or_true, Bool.false_or, Bool.or_false, Bool.not_true, Bool.not_false, if_true, if_false, Bool.false_eq_true, List.append_nil] at E1 E2 E3
        have F1 := Aside0.mk E1; have F2 := Aside0.mk E2; have F3 := Aside0.mk E3; clear E1 E2 E3
        go_wp2_with (first
          | (go_at_call 14; (with_reducible refine (QX.out _ (tri_B HT.out)).mono ?_); rintro e w' ⟨rfl, hb⟩; replace HT := Aside0.mk (Tri.below HT.out hb); clear hb)
          | (go_at_call 14; (with_reducible refine (QY.out _ (tri_B HT.out)).mono ?_); rintro e w' ⟨rfl, hb⟩; replace HT := Aside0.mk (Tri.below HT.out hb); clear hb)
          | (go_at_call 14; (with_reducible refine (QZ.out _ (tri_B HT.out)).mono ?_); rintro e w' ⟨rfl, hb⟩; replace HT := Aside0.mk (Tri.below HT.out hb); clear hb))
        exact ⟨⟨i + 1, by omega, by congr 1, by rw [F3.out, HBB.out], ⟨by rw [F1.out, F2.out, F3.out]; exact HT.out⟩⟩, by simp only [intI]; omega⟩
      · rw [hp] at QX; rw [hq] at QY; rw [hs] at QZ
        simp only [hp, hq, hs, Bool.true_and, Bool.and_true, Bool.false_and, Bool.and_false, Bool.true_or, Bool.or_true, Bool.false_or, Bool.or_false, Bool.not_true, Bool.not_false, if_true, if_false, Bool.false_eq_true, List.append_nil] at E1 E2 E3
        have F1 := Aside0.mk E1; have F2 := Aside0.mk E2; have F3 := Aside0.mk E3; clear E1 E2 E3
        go_wp2_with (first
          | (go_at_call 14; (with_reducible refine (QX.out _ (tri_B HT.out)).mono ?_); rintro e w' ⟨rfl, hb⟩; replace HT := Aside0.mk (Tri.below HT.out hb); clear hb)
          | (go_at_call 14; (with_reducible refine (QY.out _ (tri_B HT.out)).mono ?_); rintro e w' ⟨rfl, hb⟩; replace HT := Aside0.mk (Tri.below HT.out hb); clear hb)
          | (go_at_call 14; (with_reducible refine (QZ.out _ (tri_B HT.out)).mono ?_); rintro e w' ⟨rfl, hb⟩; replace HT := Aside0.mk (Tri.below HT.out hb); clear hb)
          | ((with_reducible refine gate_builtin (b := .append) (xs := #[.tmp 60, .tmp 62]) rfl ?_); at_builtin; refine Kd.R_append (Kd.int .i64) (w0 := w3) w3.heap.size rfl (.tmp 60) (.tmp 62) 22 3 (.int .i64 0) 8 rfl Tryd.underlying22 infoI rfl (by decide) (by omega) u13 (lst m2 i) (i : Int) [.int .i64 (i : Int)] (fun _ => True) (fun _ => False) rfl rfl ?aP (fun _ hk => hk.elim) ?aF ?aO ?aB ?aS ?aL ?_; (case aP => exact rfl); (case aF => exact fun _ _ => trivial); (case aO => exact tri_R HT.out.rot); (case aB => exact tri_B HT.out); (case aS => exact (tri_B HT.out).size); (case aL => have := lst_len m2 i; omega); intro vv2 w1 ho hb hg hat; replace HT := Aside0.mk (Tri.app HT.out.rot ho hb hg hat).rot.rot; clear ho hb hg hat))
        exact ⟨⟨i + 1, by omega, by congr 1, by rw [F3.out, HBB.out], ⟨by rw [F1.out, F2.out, F3.out]; exact HT.out⟩⟩, by simp only [intI]; omega⟩
      · rw [hp] at QX; rw [hq] at QY; rw [hs] at QZ
        simp only [hp, hq, hs, Bool.true_and, Bool.and_true, Bool.false_and, Bool.and_false, Bool.true_or, Bool.or_true, Bool.false_or, Bool.or_false, Bool.not_true, Bool.not_false, if_true, if_false, Bool.false_eq_true, List.append_nil] at E1 E2 E3
        have F1 := Aside0.mk E1; have F2 := Aside0.mk E2; have F3 := Aside0.mk E3; clear E1 E2 E3
        go_wp2_with (first
          | (go_at_call 14; (with_reducible refine (QX.out _ (tri_B HT.out)).mono ?_); rintro e w' ⟨rfl, hb⟩; replace HT := Aside0.mk (Tri.below HT.out hb); clear hb)
          | (go_at_call 14; (with_reducible refine (QY.out _ (tri_B HT.out)).mono ?_); rintro e w' ⟨rfl, hb⟩; replace HT := Aside0.mk (Tri.below HT.out hb); clear hb)
          | (go_at_call 14; (with_reducible refine (QZ.out _ (tri_B HT.out)).mono ?_); rintro e w' ⟨rfl, hb⟩; replace HT := Aside0.mk (Tri.below HT.out hb); clear hb)
          | ((with_reducible refine gate_builtin (b := .append) (xs := #[.tmp 60, .tmp 62]) rfl ?_); at_builtin; refine Kd.R_append (Kd.int .i64) (w0 := w3) w3.heap.size rfl (.tmp 60) (.tmp 62) 22 3 (.int .i64 0) 8 rfl Tryd.underlying22 infoI rfl (by decide) (by omega) u13 (lst m2 i) (i : Int) [.int .i64 (i : Int)] (fun _ => True) (fun _ => False) rfl rfl ?aP (fun _ hk => hk.elim) ?aF ?aO ?aB ?aS ?aL ?_; (case aP => exact rfl); (case aF => exact fun _ _ => trivial); (case aO => exact tri_R HT.out.rot); (case aB => exact tri_B HT.out); (case aS => exact (tri_B HT.out).size); (case aL => have := lst_len m2 i; omega); intro vv2 w1 ho hb hg hat; replace HT := Aside0.mk (Tri.app HT.out.rot ho hb hg hat).rot.rot; clear ho hb hg hat))
        exact ⟨⟨i + 1, by omega, by congr 1, by rw [F3.out, HBB.out], ⟨by rw [F1.out, F2.out, F3.out]; exact HT.out⟩⟩, by simp only [intI]; omega⟩
      · rw [hp] at QX; rw [hq] at QY; rw [hs] at QZ
        simp only [hp, hq, hs, Bool.true_and, Bool.and_true, Bool.false_and, Bool.and_false, Bool.true_or, Bool.or_true, Bool.false_or, Bool.or_false, Bool.not_true, Bool.not_false, if_true, if_false, Bool.false_eq_true, List.append_nil] at E1 E2 E3
        have F1 := Aside0.mk E1; have F2 := Aside0.mk E2; have F3 := Aside0.mk E3; clear E1 E2 E3
        go_wp2_with (first
          | (go_at_call 14; (with_reducible refine (QX.out _ (tri_B HT.out)).mono ?_); rintro e w' ⟨rfl, hb⟩; replace HT := Aside0.mk (Tri.below HT.out hb); clear hb)
          | (go_at_call 14; (with_reducible refine (QY.out _ (tri_B HT.out)).mono ?_); rintro e w' ⟨rfl, hb⟩; replace HT := Aside0.mk (Tri.below HT.out hb); clear hb)
          | (go_at_call 14; (with_reducible refine (QZ.out _ (tri_B HT.out)).mono ?_); rintro e w' ⟨rfl, hb⟩; replace HT := Aside0.mk (Tri.below HT.out hb); clear hb)
          | ((with_reducible refine gate_builtin (b := .append) (xs := #[.tmp 60, .tmp 62]) rfl ?_); at_builtin; refine Kd.R_append (Kd.int .i64) (w0 := w3) w3.heap.size rfl (.tmp 60) (.tmp 62) 22 3 (.int .i64 0) 8 rfl Tryd.underlying22 infoI rfl (by decide) (by omega) u13 (lst m2 i) (i : Int) [.int .i64 (i : Int)] (fun _ => True) (fun _ => False) rfl rfl ?aP (fun _ hk => hk.elim) ?aF ?aO ?aB ?aS ?aL ?_; (case aP => exact rfl); (case aF => exact fun _ _ => trivial); (case aO => exact tri_R HT.out.rot); (case aB => exact tri_B HT.out); (case aS => exact (tri_B HT.out).size); (case aL => have := lst_len m2 i; omega); intro vv2 w1 ho hb hg hat; replace HT := Aside0.mk (Tri.app HT.out.rot ho hb hg hat).rot.rot; clear ho hb hg hat))
        exact ⟨⟨i + 1, by omega, by congr 1, by rw [F3.out, HBB.out], ⟨by rw [F1.out, F2.out, F3.out]; exact HT.out⟩⟩, by simp only [intI]; omega⟩
      · rw [hp] at QX; rw [hq] at QY; rw [hs] at QZ
        simp only [hp, hq, hs, Bool.true_and, Bool.and_true, Bool.false_and, Bool.and_false, Bool.true_or, Bool.or_true, Bool.false_or, Bool.or_false, Bool.not_true, Bool.not_false, if_true, if_false, Bool.false_eq_true, List.append_nil] at E1 E2 E3
        have F1 := Aside0.mk E1; have F2 := Aside0.mk E2; have F3 := Aside0.mk E3; clear E1 E2 E3
        go_wp2_with (first
          | (go_at_call 14; (with_reducible refine (QX.out _ (tri_B HT.out)).mono ?_); rintro e w' ⟨rfl, hb⟩; replace HT := Aside0.mk (Tri.below HT.out hb); clear hb)
          | (go_at_call 14; (with_reducible refine (QY.out _ (tri_B HT.out)).mono ?_); rintro e w' ⟨rfl, hb⟩; replace HT := Aside0.mk (Tri.below HT.out hb); clear hb)
          | (go_at_call 14; (with_reducible refine (QZ.out _ (tri_B HT.out)).mono ?_); rintro e w' ⟨rfl, hb⟩; replace HT := Aside0.mk (Tri.below HT.out hb); clear hb)
          | ((with_reducible refine gate_builtin (b := .append) (xs := #[.tmp 60, .tmp 62]) rfl ?_); at_builtin; refine Kd.R_append (Kd.int .i64) (w0 := w3) w3.heap.size rfl (.tmp 60) (.tmp 62) 22 3 (.int .i64 0) 8 rfl Tryd.underlying22 infoI rfl (by decide) (by omega) u13 (lst m2 i) (i : Int) [.int .i64 (i : Int)] (fun _ => True) (fun _ => False) rfl rfl ?aP (fun _ hk => hk.elim) ?aF ?aO ?aB ?aS ?aL ?_; (case aP => exact rfl); (case aF => exact fun _ _ => trivial); (case aO => exact tri_R HT.out.rot); (case aB => exact tri_B HT.out); (case aS => exact (tri_B HT.out).size); (case aL => have := lst_len m2 i; omega); intro vv2 w1 ho hb hg hat; replace HT := Aside0.mk (Tri.app HT.out.rot ho hb hg hat).rot.rot; clear ho hb hg hat)
          | ((with_reducible refine gate_builtin (b := .append) (xs := #[.tmp 69, .tmp 71]) rfl ?_); at_builtin; refine Kd.R_append (Kd.int .i64) (w0 := w3) w3.heap.size rfl (.tmp 69) (.tmp 71) 22 3 (.int .i64 0) 8 rfl Tryd.underlying22 infoI rfl (by decide) (by omega) u14 (lst m3 i) (i : Int) [.int .i64 (i : Int)] (fun _ => True) (fun _ => False) rfl rfl ?aP (fun _ hk => hk.elim) ?aF ?aO ?aB ?aS ?aL ?_; (case aP => exact rfl); (case aF => exact fun _ _ => trivial); (case aO => exact tri_R HT.out.rot.rot); (case aB => exact tri_B HT.out); (case aS => exact (tri_B HT.out).size); (case aL => have := lst_len m3 i; omega); intro vv3 w1 ho hb hg hat; replace HT := Aside0.mk (Tri.app HT.out.rot.rot ho hb hg hat).rot; clear ho hb hg hat))
        exact ⟨⟨i + 1, by omega, by congr 1, by rw [F3.out]; simp, ⟨by rw [F1.out, F2.out, F3.out]; exact HT.out⟩⟩, by simp only [intI]; omega⟩
      · rw [hp] at QX; rw [hq] at QY; rw [hs] at QZ
        simp only [hp, hq, hs, Bool.true_and, Bool.and_true, Bool.false_and, Bool.and_false, Bool.true_or, Bool.or_true, Bool.false_or, Bool.or_false, Bool.not_true, Bool.not_false, if_true, if_false, Bool.false_eq_true, List.append_nil] at E1 E2 E3
        have F1 := Aside0.mk E1; have F2 := Aside0.mk E2; have F3 := Aside0.mk E3; clear E1 E2 E3
        go_wp2_with (first
          | (go_at_call 14; (with_reducible refine (QX.out _ (tri_B HT.out)).mono ?_); rintro e w' ⟨rfl, hb⟩; replace HT := Aside0.mk (Tri.below HT.out hb); clear hb)
          | (go_at_call 14; (with_reducible refine (QY.out _ (tri_B HT.out)).mono ?_); rintro e w' ⟨rfl, hb⟩; replace HT := Aside0.mk (Tri.below HT.out hb); clear hb)
          | (go_at_call 14; (with_reducible refine (QZ.out _ (tri_B HT.out)).mono ?_); rintro e w' ⟨rfl, hb⟩; replace HT := Aside0.mk (Tri.below HT.out hb); clear hb)
          | ((with_reducible refine gate_builtin (b := .append) (xs := #[.tmp 60, .tmp 62]) rfl ?_); at_builtin; refine Kd.R_append (Kd.int .i64) (w0 := w3) w3.heap.size rfl (.tmp 60) (.tmp 62) 22 3 (.int .i64 0) 8 rfl Tryd.underlying22 infoI rfl (by decide) (by omega) u13 (lst m2 i) (i : Int) [.int .i64 (i : Int)] (fun _ => True) (fun _ => False) rfl rfl ?aP (fun _ hk => hk.elim) ?aF ?aO ?aB ?aS ?aL ?_; (case aP => exact rfl); (case aF => exact fun _ _ => trivial); (case aO => exact tri_R HT.out.rot); (case aB => exact tri_B HT.out); (case aS => exact (tri_B HT.out).size); (case aL => have := lst_len m2 i; omega); intro vv2 w1 ho hb hg hat; replace HT := Aside0.mk (Tri.app HT.out.rot ho hb hg hat).rot.rot; clear ho hb hg hat)
          | ((with_reducible refine gate_builtin (b := .append) (xs := #[.tmp 69, .tmp 71]) rfl ?_); at_builtin; refine Kd.R_append (Kd.int .i64) (w0 := w3) w3.heap.size rfl (.tmp 69) (.tmp 71) 22 3 (.int .i64 0) 8 rfl Tryd.underlying22 infoI rfl (by decide) (by omega) u14 (lst m3 i) (i : Int) [.int .i64 (i : Int)] (fun _ => True) (fun _ => False) rfl rfl ?aP (fun _ hk => hk.elim) ?aF ?aO ?aB ?aS ?aL ?_; (case aP => exact rfl); (case aF => exact fun _ _ => trivial); (case aO => exact tri_R HT.out.rot.rot); (case aB => exact tri_B HT.out); (case aS => exact (tri_B HT.out).size); (case aL => have := lst_len m3 i; omega); intro vv3 w1 ho hb hg hat; replace HT := Aside0.mk (Tri.app HT.out.rot.rot ho hb hg hat).rot; clear ho hb hg hat))
        exact ⟨⟨i + 1, by omega, by congr 1, by rw [F3.out]; simp, ⟨by rw [F1.out, F2.out, F3.out]; exact HT.out⟩⟩, by simp only [intI]; omega⟩
      · rw [hp] at QX; rw [hq] at QY; rw [hs] at QZ
        simp only [hp, hq, hs, Bool.true_and, Bool.and_true, Bool.false_and, Bool.and_false, Bool.true_or, Bool.or_true, Bool.false_or, Bool.or_false, Bool.not_true, Bool.not_false, if_true, if_false, Bool.false_eq_true, List.append_nil] at E1 E2 E3
        have F1 := Aside0.mk E1; have F2 := Aside0.mk E2; have F3 := Aside0.mk E3; clear E1 E2 E3
        go_wp2_with (first
          | (go_at_call 14; (with_reducible refine (QX.out _ (tri_B HT.out)).mono ?_); rintro e w' ⟨rfl, hb⟩; replace HT := Aside0.mk (Tri.below HT.out hb); clear hb)
          | (go_at_call 14; (with_reducible refine (QY.out _ (tri_B HT.out)).mono ?_); rintro e w' ⟨rfl, hb⟩; replace HT := Aside0.mk (Tri.below HT.out hb); clear hb)
          | (go_at_call 14; (with_reducible refine (QZ.out _ (tri_B HT.out)).mono ?_); rintro e w' ⟨rfl, hb⟩; replace HT := Aside0.mk (Tri.below HT.out hb); clear hb)
          | ((with_reducible refine gate_builtin (b := .append) (xs := #[.tmp 60, .tmp 62]) rfl ?_); at_builtin; refine Kd.R_append (Kd.int .i64) (w0 := w3) w3.heap.size rfl (.tmp 60) (.tmp 62) 22 3 (.int .i64 0) 8 rfl Tryd.underlying22 infoI rfl (by decide) (by omega) u13 (lst m2 i) (i : Int) [.int .i64 (i : Int)] (fun _ => True) (fun _ => False) rfl rfl ?aP (fun _ hk => hk.elim) ?aF ?aO ?aB ?aS ?aL ?_; (case aP => exact rfl); (case aF => exact fun _ _ => trivial); (case aO => exact tri_R HT.out.rot); (case aB => exact tri_B HT.out); (case aS => exact (tri_B HT.out).size); (case aL => have := lst_len m2 i; omega); intro vv2 w1 ho hb hg hat; replace HT := Aside0.mk (Tri.app HT.out.rot ho hb hg hat).rot.rot; clear ho hb hg hat))
        exact ⟨⟨i + 1, by omega, by congr 1, by rw [F3.out, HBB.out], ⟨by rw [F1.out, F2.out, F3.out]; exact HT.out⟩⟩, by simp only [intI]; omega⟩
      · rw [hp] at QX; rw [hq] at QY; rw [hs] at QZ
        simp only [hp, hq, hs, Bool.true_and, Bool.and_true, Bool.false_and, Bool.and_false, Bool.true_or, Bool.or_true, Bool.false_or, Bool.or_false, Bool.not_true, Bool.not_false, if_true, if_false, Bool.false_eq_true, List.append_nil] at E1 E2 E3
        have F1 := Aside0.mk E1; have F2 := Aside0.mk E2; have F3 := Aside0.mk E3; clear E1 E2 E3
        go_wp2_with (first
          | (go_at_call 14; (with_reducible refine (QX.out _ (tri_B HT.out)).mono ?_); rintro e w' ⟨rfl, hb⟩; replace HT := Aside0.mk (Tri.below HT.out hb); clear hb)
          | (go_at_call 14; (with_reducible refine (QY.out _ (tri_B HT.out)).mono ?_); rintro e w' ⟨rfl, hb⟩; replace HT := Aside0.mk (Tri.below HT.out hb); clear hb)
          | (go_at_call 14; (with_reducible refine (QZ.out _ (tri_B HT.out)).mono ?_); rintro e w' ⟨rfl, hb⟩; replace HT := Aside0.mk (Tri.below HT.out hb); clear hb)
          | ((with_reducible refine gate_builtin (b := .append) (xs := #[.tmp 49, .tmp 51]) rfl ?_); at_builtin; refine Kd.R_append (Kd.int .i64) (w0 := w3) w3.heap.size rfl (.tmp 49) (.tmp 51) 22 3 (.int .i64 0) 8 rfl Tryd.underlying22 infoI rfl (by decide) (by omega) u12 (lst m1 i) (i : Int) [.int .i64 (i : Int)] (fun _ => True) (fun _ => False) rfl rfl ?aP (fun _ hk => hk.elim) ?aF ?aO ?aB ?aS ?aL ?_; (case aP => exact rfl); (case aF => exact fun _ _ => trivial); (case aO => exact tri_R HT.out); (case aB => exact tri_B HT.out); (case aS => exact (tri_B HT.out).size); (case aL => have := lst_len m1 i; omega); intro vv1 w1 ho hb hg hat; replace HT := Aside0.mk (Tri.app HT.out ho hb hg hat); clear ho hb hg hat)
          | ((with_reducible refine gate_builtin (b := .append) (xs := #[.tmp 60, .tmp 62]) rfl ?_); at_builtin; refine Kd.R_append (Kd.int .i64) (w0 := w3) w3.heap.size rfl (.tmp 60) (.tmp 62) 22 3 (.int .i64 0) 8 rfl Tryd.underlying22 infoI rfl (by decide) (by omega) u13 (lst m2 i) (i : Int) [.int .i64 (i : Int)] (fun _ => True) (fun _ => False) rfl rfl ?aP (fun _ hk => hk.elim) ?aF ?aO ?aB ?aS ?aL ?_; (case aP => exact rfl); (case aF => exact fun _ _ => trivial); (case aO => exact tri_R HT.out.rot); (case aB => exact tri_B HT.out); (case aS => exact (tri_B HT.out).size); (case aL => have := lst_len m2 i; omega); intro vv2 w1 ho hb hg hat; replace HT := Aside0.mk (Tri.app HT.out.rot ho hb hg hat).rot.rot; clear ho hb hg hat))
        exact ⟨⟨i + 1, by omega, by congr 1, by rw [F3.out, HBB.out], ⟨by rw [F1.out, F2.out, F3.out]; exact HT.out⟩⟩, by simp only [intI]; omega⟩
    · obtain rfl : i = 32 := by omega
      rw [lst_all, lst_all, lst_all] at HT
      obtain ⟨Q1, cq1, rfl, q1, C1⟩ := Kd.R_reads (tri_R HT.out)
      obtain ⟨Q2, cq2, rfl, q2, C2⟩ := Kd.R_reads (tri_R HT.out.rot)
      obtain ⟨Q3, cq3, rfl, q3, C3⟩ := Kd.R_reads (tri_R HT.out.rot.rot)
      have N1 : (obsI m1).length ≤ 32 := by rw [obsI_length]; exact obsF_len m1
      have N2 : (obsI m2).length ≤ 32 := by rw [obsI_length]; exact obsF_len m2
      have N3 : (obsI m3).length ≤ 32 := by rw [obsI_length]; exact obsF_len m3
      have KW1 := Aside0.mk (fun (z : World) (h : Below wr.heap.size wr z) => word_any Q1 cq1 (obsI m1) z (Kd.C_below C1 h) q1 (by omega))
      have KW2 := Aside0.mk (fun (z : World) (h : Below wr.heap.size wr z) => word_any Q2 cq2 (obsI m2) z (Kd.C_below C2 h) q2 (by omega))
      have KW3 := Aside0.mk (fun (z : World) (h : Below wr.heap.size wr z) => word_any Q3 cq3 (obsI m3) z (Kd.C_below C3 h) q3 (by omega))
      rw [laws_9 l1] at KW1
      rw [laws_9 l2] at KW2
      rw [laws_9 l3] at KW3
      have HBL := Aside0.mk (Kd.C_below HL.out.2 (tri_B HT.out))
      have HBX := Aside0.mk (Kd.R_below HXR.out (tri_B HT.out))
      have HB0 := Aside0.mk (bel_t5 HB.out (tri_B HT.out))
      have HK := Aside0.mk (Below.refl wr.heap.size wr)
      have KA := Aside0.mk (fun (z : World) (h : Below wr.heap.size wr z) => with_any a ha A0 c0 L z (Kd.C_below HBL.out h) HL.out.1 (by omega))
      obtain ⟨wv, hwv⟩ : ∃ x, withN a L = x := ⟨_, rfl⟩
      have HWV := Aside0.mk (with_obs ha L)
      rw [hwv] at KA HWV
      have KM0 := Aside0.mk (meet0_any a ha)
      have KJ0 := Aside0.mk (join0_any a ha)
      have hxl : (obsI a ++ L).length < 4611686018427387904 := by rw [List.length_append]; omega
      obtain ⟨XL, hXL⟩ : ∃ x, obsI a ++ L = x := ⟨_, rfl⟩
      rw [hXL] at hxl HWV
      have HXL := Aside0.mk hxl
      have HXE := Aside0.mk hXL
      clear hXL hwv C1 C2 C3 q1 q2 q3 HT hxl
      go_wp2_with (first
        | (go_at_call 23; (with_reducible refine (KM.out _ _ (by go_simp) (by go_simp)).mono ?_); rintro e w4 ⟨rfl, hb⟩; replace HK := Aside0.mk (bel_t5 (below_alloc HK.out _) hb); clear hb)
        | (go_at_call 24; (with_reducible refine (KJ.out _ _ (by go_simp) (by go_simp)).mono ?_); rintro e w4 ⟨rfl, hb⟩; replace HK := Aside0.mk (bel_t5 (below_alloc HK.out _) hb); clear hb)
        | (go_at_call 23; (with_reducible refine (KM0.out _).mono ?_); rintro e w4 ⟨rfl, hb⟩; replace HB0 := Aside0.mk (bel_t5 HB0.out hb); clear hb)
        | (go_at_call 24; (with_reducible refine (KJ0.out _).mono ?_); rintro e w4 ⟨rfl, hb⟩; replace HB0 := Aside0.mk (bel_t5 HB0.out hb); clear hb)
        | (go_at_call 22; (with_reducible refine (KL.out _).mono ?_); rintro e w4 ⟨rfl, hb⟩; replace HK := Aside0.mk (bel_t5 HK.out hb); clear hb)
        | (go_at_call 22; (with_reducible refine (K0.out _).mono ?_); rintro e w4 ⟨rfl, hb⟩; replace HB0 := Aside0.mk (bel_t5 HB0.out hb); clear hb)
        | (go_at_call 20; (with_reducible refine (KW.out _).mono ?_); rintro e w4 ⟨rfl, hb⟩; replace HK := Aside0.mk (bel_t5 HK.out hb); clear hb)
        | (go_at_call 11; (with_reducible refine (KW1.out _ HK.out).mono ?_); rintro e w4 ⟨rfl, hb⟩; replace HK := Aside0.mk (bel_t5 HK.out hb); clear hb KW1)
        | (go_at_call 11; (with_reducible refine (KW2.out _ HK.out).mono ?_); rintro e w4 ⟨rfl, hb⟩; replace HK := Aside0.mk (bel_t5 HK.out hb); clear hb KW2)
        | (go_at_call 11; (with_reducible refine (KW3.out _ HK.out).mono ?_); rintro e w4 ⟨rfl, hb⟩; replace HK := Aside0.mk (bel_t5 HK.out hb); clear hb KW3)
        | (go_at_call 11; (with_reducible refine (word_any Q9 c9 XL _ HX9.out.2 HX9.out.1 HXL.out).mono ?_); rw [HWV.out]; rintro e w4 ⟨rfl, hb⟩; replace HB0 := Aside0.mk (bel_t5 HB0.out hb); clear hb)
        | (go_at_call 21; (with_reducible refine (KA.out _ HK.out).mono ?_); rintro e w4 ⟨rfl, hb⟩; replace HK := Aside0.mk (bel_t5 HK.out hb); clear hb)
        | ((with_reducible refine gate_builtin (b := .append) (xs := #[.tmp 111, .tmp 112]) rfl ?_); at_builtin; refine R_app_g .i64 (w0 := w00) w00.heap.size rfl (.tmp 111) (.tmp 112) 22 3 8 rfl Tryd.underlying22 infoI (by decide) (.slice A1 (obsI a).length c1) (obsI a) L A0 L.length c0 (fun _ => True) rfl rfl (Kd.R_below HBX.out HK.out) (Kd.C_below HBL.out HK.out) (fun _ _ => trivial) (bel_t5 HB0.out HK.out) (bel_t5 HB0.out HK.out).size (by omega) ?_; intro v9 w9 ho hb hg hat; rw [HXE.out] at ho; obtain ⟨Q9, c9, rfl, q9, C9⟩ := Kd.R_reads ho; have HX9 := Aside0.mk (And.intro q9 C9); replace HB0 := Aside0.mk hb; clear q9 C9 ho hb hg hat))
      go_ret
      exact ⟨rfl, HB0.out⟩
theorem meets_row (a b c : Int) (A : Option Addr) (len cap : Nat) (l : List Int) (w : World) (hT : Tabs w) (h0 : 0 ≤ a ∧ a < 4294967296) (h1 : 0 ≤ b ∧ b < 4294967296) (h2 : 0 ≤ c ∧ c < 4294967296) (hr : (Kd.int .i64).C w A len l) (hc : len ≤ cap) (hl : ∀ x ∈ l, -9223372036854775808 ≤ x ∧ x < 9223372036854775808) :
    Calls Tryd.prog 5 #[.int .u32 a, .int .u32 b, .int .u32 c, .slice A len cap] w fun e w' => e = .returned (.bool true) ∧ Below w.heap.size w w' := by
  obtain rfl : len = l.length := hr.1.symm
  have h := meets_walk a.toNat b.toNat c.toNat (by omega) (by omega) (by omega) A cap l w hT hr hc
  rw [show ((a.toNat : Nat) : Int) = a by omega, show ((b.toNat : Nat) : Int) = b by omega, show ((c.toNat : Nat) : Int) = c by omega] at h
  exact h
end Go.Proofs.YthafmgcflbdjpaaDoor
