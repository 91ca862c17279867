/- The parts of this proof, one behind the other: contracts of the functions, plain laws, the walk. -/
import Derived.Test.YticpjidcgaaldaaMeb
namespace Go.Proofs.Yticpjidcgaaldaa
open Go.RowKit Go.Proofs.YticpjidcgaaldaaW.PrintWords Go.Proofs.YticpjidcgaaldaaW.PrintLast Go.Proofs.YticpjidcgaaldaaW.PrintMore
set_option linter.unusedVariables false
set_option linter.unusedSimpArgs false

/-- The bytes of a message that may be. -/
def mSay (k t m tk hs : Int) (P : List Int) (C : List S59) : List Int :=
  if k = 2 then [k] ++ lowN t.toNat 4 ++ lowN m.toNat 4 else if k = 5 ∨ k = 6 then [k] ++ pbD tk.toNat hs.toNat P C else [k]
def mBytes (k t m tk hs : Int) (P : List Int) (C : List S59) : List Int := if rightM k t m tk hs P C = true then mSay k t m tk hs P C else []

set_option maxRecDepth 100000 in
set_option maxHeartbeats 16000000 in
theorem mbytes_any (k t m tk hs : Int) (P : List Int) (C : List S59) (v : Value) (w00 : World) (hv : MsC w00 k t m tk hs P C v) (hk : OkM k t m tk hs P C) :
    Calls Try.prog 13 #[v] w00 fun e w' => ∃ v', e = .returned v' ∧ (Kd.int .u8).R 5 w' w00.heap.size (fun _ => True) v' (mBytes k t m tk hs P C) ∧ Below w00.heap.size w00 w' := by
  have KR := Aside0.mk (fun (z : World) (h : Below w00.heap.size w00 z) => mright_any k t m tk hs P C v z (hv.below h) hk)
  obtain ⟨A, c, A2, c2, rfl, h2, h3, h4, h5⟩ := hv
  have HOK := Aside0.mk hk
  have HD : Aside0 (∀ z, Below w00.heap.size w00 z → DvC z tk hs P C (.agg #[.int .u32 tk, .int .u32 hs, .slice A P.length c, .slice A2 C.length c2])) := ⟨fun z hz => ⟨A, c, A2, c2, rfl, h2, h3, Kd.C_below h4 hz, Kd.C_below h5 hz⟩⟩
  obtain ⟨n, hn⟩ : ∃ n, P.length = n := ⟨_, rfl⟩
  obtain ⟨nc, hnc⟩ : ∃ nc, C.length = nc := ⟨_, rfl⟩
  rw [hn, hnc] at HD KR
  rw [hn, hnc]
  obtain ⟨B, hB⟩ : ∃ B, w00.heap.size = B := ⟨_, rfl⟩
  rw [hB] at HD KR
  have HB := Aside0.mk hB
  have H0 := Aside0.mk ((Hp.start w00).allocAt (.cells #[.int .u8 k, .int .u32 t, .int .u32 m, .int .u32 tk, .int .u32 hs, .slice A n c, .slice A2 nc c2] 28) B hB)
  rw [hB] at H0
  obtain ⟨tn, htn⟩ : ∃ x : Nat, t = (x : Int) := ⟨t.toNat, by have := HOK.out.2.1; omega⟩
  obtain ⟨mn, hmn⟩ : ∃ x : Nat, m = (x : Int) := ⟨m.toNat, by have := HOK.out.2.2.1; omega⟩
  obtain ⟨tkn, htk⟩ : ∃ x : Nat, tk = (x : Int) := ⟨tk.toNat, by have := HOK.out.2.2.2.1; omega⟩
  obtain ⟨hsn, hhs⟩ : ∃ x : Nat, hs = (x : Int) := ⟨hs.toNat, by have := HOK.out.2.2.2.2.1; omega⟩
  have HTN : Aside0 (t = tn ∧ m = mn ∧ tn < 4294967296 ∧ mn < 4294967296) := ⟨htn, hmn, by have := HOK.out.2.1; omega, by have := HOK.out.2.2.1; omega⟩
  have KB := Aside0.mk (fun (z : World) (h : Below B w00 z) => pbytes7_any tkn hsn P C _ z (by rw [← htk, ← hhs]; exact HD.out z h) HOK.out.2.2.2.2.2.1 (by have := HOK.out.2.2.2.2.2.2.2.1; omega) (by have := HOK.out.2.2.2.1; omega) (by have := HOK.out.2.2.2.2.1; omega) (fun y hy => (HOK.out.2.2.2.2.2.2.1 y hy).2))
  have HPN := Aside0.mk hn
  obtain ⟨pb, hpb⟩ : ∃ pb, pbD tkn hsn P C = pb := ⟨_, rfl⟩
  rw [hpb] at KB
  have HPL : Aside0 (pb.length ≤ 9009) := ⟨by rw [← hpb]; have := pbD_le tkn hsn P C; have := HOK.out.2.2.2.2.2.2.2.1; omega⟩
  obtain ⟨mb, hmb⟩ : ∃ mb, mBytes k t m tk hs P C = mb := ⟨_, rfl⟩
  rw [hmb]
  obtain ⟨ρ, hρ⟩ : ∃ ρ, rightM k t m tk hs P C = ρ := ⟨_, rfl⟩
  have HMB : Aside0 (mb = if ρ = true then (if k = 2 then [k] ++ lowN tn 4 ++ lowN mn 4 else if k = 5 ∨ k = 6 then [k] ++ pb else [k]) else []) := ⟨by
    rw [← hmb, ← hρ, ← hpb]
    unfold mBytes mSay
    rw [show t.toNat = tn by omega, show m.toNat = mn by omega, show tk.toNat = tkn by omega, show hs.toNat = hsn by omega]⟩
  rw [hρ] at KR
  clear hk h2 h3 h4 h5 hn hnc htk hhs hpb hmb hρ htn hmn
  go_enter Try.func13, Try.ntmps13
  go_wp2_with (first | (refine wpList_load_row_g 28 (.tmp 1) rfl B rfl rfl 28 _ (0, 0) _ (H0.out.get (i := 0) rfl) Try.underlying28 rfl (msg_info _ _ _ _ _ _ _) ?_))
  refine (KR.out _ H0.out.bel).mono ?_
  rintro e V0 ⟨rfl, hb1⟩
  have H1 := Aside0.mk (H0.out.call hb1)
  clear hb1 H0 KR
  cases ρ with
  | false =>
    have HE : Aside0 (mb = []) := ⟨by rw [HMB.out]; rfl⟩
    clear HMB
    go_wp2_with fail
    go_ret
    rw [HE.out, HB.out]
    exact ⟨_, rfl, Kd.R_nil _ _ _ _ _, H1.out.bel⟩
  | true =>
    rw [if_pos rfl] at HMB
    obtain ⟨gp, hgp⟩ : ∃ gp, V0.heap.size = gp := ⟨_, rfl⟩
    have GD : Aside0 (B < gp) := ⟨by rw [← hgp]; exact H1.out.lt (i := 0) rfl⟩
    have hP0 : Pn (V0.alloc (.cells #[.slice none 0 0] 91)) gp gp [] (.slice none 0 0) := ⟨by rw [← hgp]; exact blk_new _ _, Kd.R_nil _ _ _ _ _⟩
    have HP0 := Aside0.mk hP0
    have HB0 : Aside0 (Below gp V0 (V0.alloc (.cells #[.slice none 0 0] 91))) := ⟨by rw [← hgp]; exact below_alloc (Below.refl _ _) _⟩
    have HG0 := Aside0.mk (H1.out.get (i := 0) rfl)
    have HW0 : Aside0 (∀ z, Below gp V0 z → Below B w00 z) := ⟨fun z hz => H1.out.bel.trans (hz.mono (Nat.le_of_lt GD.out))⟩
    clear hP0 H1
    have c0 : ∀ z, Below gp V0 z → z.cell? ⟨B, 0, none⟩ = some (.int .u8 k) := fun z hz => blk_cell ((hz.block B GD.out).trans HG0.out) 0
    have c1 : ∀ z, Below gp V0 z → z.cell? ⟨B, 1, none⟩ = some (.int .u32 t) := fun z hz => blk_cell ((hz.block B GD.out).trans HG0.out) 1
    have c2' : ∀ z, Below gp V0 z → z.cell? ⟨B, 2, none⟩ = some (.int .u32 m) := fun z hz => blk_cell ((hz.block B GD.out).trans HG0.out) 2
    have c3 : ∀ z, Below gp V0 z → z.cell? ⟨B, 3, none⟩ = some (.int .u32 tk) := fun z hz => blk_cell ((hz.block B GD.out).trans HG0.out) 3
    have c4 : ∀ z, Below gp V0 z → z.cell? ⟨B, 4, none⟩ = some (.int .u32 hs) := fun z hz => blk_cell ((hz.block B GD.out).trans HG0.out) 4
    have c5 : ∀ z, Below gp V0 z → z.cell? ⟨B, 5, none⟩ = some (.slice A n c) := fun z hz => blk_cell ((hz.block B GD.out).trans HG0.out) 5
    have c6 : ∀ z, Below gp V0 z → z.cell? ⟨B, 6, none⟩ = some (.slice A2 nc c2) := fun z hz => blk_cell ((hz.block B GD.out).trans HG0.out) 6
    have HCL := Aside0.mk (And.intro c0 (And.intro c1 (And.intro c2' (And.intro c3 (And.intro c4 (And.intro c5 c6))))))
    clear c0 c1 c2' c3 c4 c5 c6
    have HGP := Aside0.mk hgp
    clear hgp
    have c0 := HCL.out.1 _ HB0.out
    go_wp2_with fail
    clear c0
    rw [HGP.out]
    refine (pbyte_any gp gp [] _ k _ HP0.out (Nat.le_refl _) (by simp)).mono ?_
    rintro e V1 ⟨v1, rfl, h1⟩
    have HP1 : Aside0 (Pn V1 gp gp [k] v1) := ⟨h1.1⟩
    have HB1 := Aside0.mk (HB0.out.trans h1.2.2.2)
    clear h1 HP0 HB0
    have c0 := HCL.out.1 _ HB1.out
    by_cases h2 : k = 2
    · subst h2
      have HE : Aside0 (mb = [2] ++ lowN tn 4 ++ lowN mn 4) := ⟨HMB.out⟩
      clear HMB
      go_wp2_with fail
      clear c0
      obtain ⟨e1, e2, HTN2, HTN3⟩ := HTN.out
      subst e1 e2
      refine regionS (W := V1)
        [fun _ v => v = .pointer (some ⟨B, 1, none⟩),
         fun _ v => v = .int .u32 tn,
         fun _ v => v = .pointer (some ⟨gp, 0, none⟩),
         fun _ v => v = .pointer (some ⟨B, 2, none⟩),
         fun _ v => v = .int .u32 mn,
         fun _ v => v = .pointer (some ⟨gp, 0, none⟩)]
        [2, 5]
        (fun t => match t with | 0 => fun (rs : List Value) (w : World) => ∃ v, Pn w gp gp [2] v | 1 => fun (rs : List Value) (w : World) => ∃ v, Pn w gp gp ([2] ++ lowN tn 4) v | 2 => fun (rs : List Value) (w : World) => ∃ v, Pn w gp gp ([2] ++ lowN tn 4 ++ lowN mn 4) v | _ => fun _ _ => False)
        (fun _ _ _ => True) (fun w => Below gp V0 w ∧ gp ≤ w.heap.size)
        (fun j =>  none)
        [(0, some 14), (1, some 15), (2, some 16), (3, some 17), (4, some 18), (5, some 19)]
        []
        (by kernel_rfl) (by kernel_rfl) (by kernel_rfl) (by kernel_rfl) (by kernel_rfl) ?z7_1c ?z7_1i ?z7_1b ?z7_1d ?z7_1g ⟨?z7_1t0, ?z7_1t1, ?z7_1t2, ?z7_1t3, ?z7_1t4, ?z7_1t5, trivial⟩ ⟨?z7_1o0, ?z7_1o1, ?z7_1o2, ?z7_1o3, ?z7_1o4, ?z7_1o5, trivial⟩ ?z7_1e
      case z7_1c => exact ⟨HB1.out.trans (below_drew (Below.refl _ _)), Nat.le_of_lt (blk_lt HP1.out.1)⟩
      case z7_1i => exact ⟨_, HP1.out⟩
      case z7_1b => intro w w' hb h; exact ⟨h.1.trans (hb.mono h.2), Nat.le_trans h.2 hb.size⟩
      case z7_1d =>
        intro t rs w w' hb h
        match t, h with
        | 0, h => (replace h : ∃ v, Pn w gp gp [2] v := h); show ∃ v, Pn w' gp gp [2] v; (obtain ⟨v, h⟩ := h; exact ⟨v, h.below hb⟩)
        | 1, h => (replace h : ∃ v, Pn w gp gp ([2] ++ lowN tn 4) v := h); show ∃ v, Pn w' gp gp ([2] ++ lowN tn 4) v; (obtain ⟨v, h⟩ := h; exact ⟨v, h.below hb⟩)
        | 2, h => (replace h : ∃ v, Pn w gp gp ([2] ++ lowN tn 4 ++ lowN mn 4) v := h); show ∃ v, Pn w' gp gp ([2] ++ lowN tn 4 ++ lowN mn 4) v; (obtain ⟨v, h⟩ := h; exact ⟨v, h.below hb⟩)
        | _ + 3, h => exact h.elim
      case z7_1g =>
        intro j hj; cases hj
      case z7_1t0 => exact StabS.const _ _ _ _
      case z7_1t1 => exact StabS.const _ _ _ _
      case z7_1t2 => exact StabS.const _ _ _ _
      case z7_1t3 => exact StabS.const _ _ _ _
      case z7_1t4 => exact StabS.const _ _ _ _
      case z7_1t5 => exact StabS.const _ _ _ _
      case z7_1o0 =>
        intro vs w t hC ht1 ht2 hS hV
        rw [if_pos (by kernel_rfl)]
        generalize hρ : rho _ _ _ vs = ρ
        have e1 : ρ (.tmp 1) = .pointer (some ⟨B, 0, none⟩) := by rw [← hρ]; kernel_rfl
        clear hρ hV
        refine runs_val (v := .pointer (some ⟨B, 1, none⟩)) (w' := w) ?_ ⟨Below.refl _ _, rfl⟩
        clear ht1 ht2 hS hC
        go_simp <;> (first | exact IntWalk.u64_in _ (by omega) | exact IntWalk.u32_in _ (by omega) | exact IntWalk.u16_in _ (by omega) | exact IntWalk.u8_in _ (by omega) | exact IntWalk.i64_in _ (by omega) | skip)
      case z7_1o1 =>
        intro vs w t hC ht1 ht2 hS hV
        rw [if_pos (by kernel_rfl)]
        generalize hρ : rho _ _ _ vs = ρ
        have d14 : (vs 0) = .pointer (some ⟨B, 1, none⟩) := hV 0 (by kernel_rfl)
        have e14 : ρ (.tmp 14) = vs 0 := by rw [← hρ]; kernel_rfl
        rw [d14] at e14; clear d14
        clear hρ hV
        have c0 := HCL.out.2.1 w hC.1
        refine runs_val (v := .int .u32 tn) (w' := w) ?_ ⟨Below.refl _ _, rfl⟩
        clear ht1 ht2 hS hC
        go_simp
      case z7_1o2 =>
        intro vs w hC hS hV
        replace hS : ∃ v, Pn w gp gp [2] v := hS
        rw [if_pos (by kernel_rfl)]
        generalize hρ : rho _ _ _ vs = ρ
        have e3 : ρ (.tmp 3) = .pointer (some ⟨gp, 0, none⟩) := by rw [← hρ]; kernel_rfl
        have d15 : (vs 1) = .int .u32 tn := hV 1 (by kernel_rfl)
        have e15 : ρ (.tmp 15) = vs 1 := by rw [← hρ]; kernel_rfl
        rw [d15] at e15; clear d15
        have ef39 : ρ (.func 39) = .func (.func 39) #[] #[] := by rw [← hρ]; rfl
        clear hρ hV
        obtain ⟨v, hp⟩ := hS
        refine runs_call (f := 39) (args := #[.pointer (some ⟨gp, 0, none⟩), .int .u32 tn]) (w' := w) ?_ ?_
        · go_simp
        · refine (pword_any gp gp [2] v tn HTN2 w hp (Nat.le_refl _) (by simp)).mono ?_
          rintro e w5 ⟨v', rfl, h⟩
          exact ⟨_, rfl, ⟨hC.1.trans h.2.2.2, Nat.le_trans hC.2 h.2.1.1⟩, trivial, rfl, ⟨v', h.1⟩⟩
      case z7_1o3 =>
        intro vs w t hC ht1 ht2 hS hV
        rw [if_pos (by kernel_rfl)]
        generalize hρ : rho _ _ _ vs = ρ
        have e1 : ρ (.tmp 1) = .pointer (some ⟨B, 0, none⟩) := by rw [← hρ]; kernel_rfl
        clear hρ hV
        refine runs_val (v := .pointer (some ⟨B, 2, none⟩)) (w' := w) ?_ ⟨Below.refl _ _, rfl⟩
        clear ht1 ht2 hS hC
        go_simp <;> (first | exact IntWalk.u64_in _ (by omega) | exact IntWalk.u32_in _ (by omega) | exact IntWalk.u16_in _ (by omega) | exact IntWalk.u8_in _ (by omega) | exact IntWalk.i64_in _ (by omega) | skip)
      case z7_1o4 =>
        intro vs w t hC ht1 ht2 hS hV
        rw [if_pos (by kernel_rfl)]
        generalize hρ : rho _ _ _ vs = ρ
        have d17 : (vs 3) = .pointer (some ⟨B, 2, none⟩) := hV 3 (by kernel_rfl)
        have e17 : ρ (.tmp 17) = vs 3 := by rw [← hρ]; kernel_rfl
        rw [d17] at e17; clear d17
        clear hρ hV
        have c0 := HCL.out.2.2.1 w hC.1
        refine runs_val (v := .int .u32 mn) (w' := w) ?_ ⟨Below.refl _ _, rfl⟩
        clear ht1 ht2 hS hC
        go_simp
      case z7_1o5 =>
        intro vs w hC hS hV
        replace hS : ∃ v, Pn w gp gp ([2] ++ lowN tn 4) v := hS
        rw [if_pos (by kernel_rfl)]
        generalize hρ : rho _ _ _ vs = ρ
        have d16 : (vs 2) = .pointer (some ⟨gp, 0, none⟩) := hV 2 (by kernel_rfl)
        have e16 : ρ (.tmp 16) = vs 2 := by rw [← hρ]; kernel_rfl
        rw [d16] at e16; clear d16
        have d18 : (vs 4) = .int .u32 mn := hV 4 (by kernel_rfl)
        have e18 : ρ (.tmp 18) = vs 4 := by rw [← hρ]; kernel_rfl
        rw [d18] at e18; clear d18
        have ef39 : ρ (.func 39) = .func (.func 39) #[] #[] := by rw [← hρ]; rfl
        clear hρ hV
        obtain ⟨v, hp⟩ := hS
        refine runs_call (f := 39) (args := #[.pointer (some ⟨gp, 0, none⟩), .int .u32 mn]) (w' := w) ?_ ?_
        · go_simp
        · refine (pword_any gp gp ([2] ++ lowN tn 4) v mn HTN3 w hp (Nat.le_refl _) (by rw [List.length_append, lowN_length]; simp)).mono ?_
          rintro e w5 ⟨v', rfl, h⟩
          exact ⟨_, rfl, ⟨hC.1.trans h.2.2.2, Nat.le_trans hC.2 h.2.1.1⟩, trivial, rfl, ⟨v', h.1⟩⟩
      case z7_1e =>
        intro vs V2 hC hS hV
        replace hS : (fun (w : World) => ∃ v, Pn w gp gp ([2] ++ lowN tn 4 ++ lowN mn 4) v) V2 := hS
        have d14 : (vs 0) = .pointer (some ⟨B, 1, none⟩) := hV 0 (Nat.le_of_ble_eq_true rfl)
        have d15 : (vs 1) = .int .u32 tn := hV 1 (Nat.le_of_ble_eq_true rfl)
        have d16 : (vs 2) = .pointer (some ⟨gp, 0, none⟩) := hV 2 (Nat.le_of_ble_eq_true rfl)
        have d17 : (vs 3) = .pointer (some ⟨B, 2, none⟩) := hV 3 (Nat.le_of_ble_eq_true rfl)
        have d18 : (vs 4) = .int .u32 mn := hV 4 (Nat.le_of_ble_eq_true rfl)
        have d19 : (vs 5) = .pointer (some ⟨gp, 0, none⟩) := hV 5 (Nat.le_of_ble_eq_true rfl)
        clear hV
        simp only [putAll]
        rw [d14, d15, d16, d17, d18, d19]
        clear d14 d15 d16 d17 d18 d19
        clear vs
        simp only [Act.put, List.setIfInBounds_toArray, List.set_cons_zero, List.set_cons_succ]
        obtain ⟨v2, hp2⟩ := hS
        have HP2 := Aside0.mk hp2
        have HB2 := Aside0.mk hC.1
        clear hp2 hC
        go_wp2_with fail
        refine (pbytes_any gp gp ([2] ++ lowN tn 4 ++ lowN mn 4) v2 V2 HP2.out (by simp [lowN_length])).mono ?_
        rintro e V9 ⟨v9, rfl, hr9, hb9⟩
        have HR9 := Aside0.mk (Kd.R_lower hr9 (Nat.le_trans (Nat.le_of_lt GD.out) (Nat.le_of_lt (blk_lt HP2.out.1))))
        have HB9 := Aside0.mk (HW0.out _ (HB2.out.trans (hb9.mono (Nat.le_of_lt (blk_lt HP2.out.1)))))
        clear hr9 hb9
        go_wp2_with fail
        go_ret
        rw [HB.out, HE.out]
        exact ⟨_, rfl, HR9.out, HB9.out⟩
    · skip
      by_cases h5 : k = 5
      · subst h5
        have HE : Aside0 (mb = [5] ++ pb) := ⟨HMB.out⟩
        clear HMB
        go_wp2_with fail
        clear c0
        refine regionS (W := V1)
          [fun _ _ => True,
           fun _ v => v = .pointer (some ⟨B, 3, none⟩),
           fun _ v => v = .agg #[.int .u32 tk, .int .u32 hs, .slice A n c, .slice A2 nc c2],
           fun _ _ => True,
           fun _ _ => True,
           fun _ _ => True]
          [0, 3, 4, 5]
          (fun t => match t with | 0 => fun (rs : List Value) (w : World) => ∃ v, Pn w gp gp [5] v | 1 => fun (rs : List Value) (w : World) => (Kd.int .u8).R 5 w gp (fun _ => True) (rs.getD 0 undef) [5] | 2 => fun (rs : List Value) (w : World) => (Kd.int .u8).R 5 w gp (fun _ => True) (rs.getD 0 undef) [5] ∧ (Kd.int .u8).R 5 w gp (fun _ => True) (rs.getD 1 undef) pb | 3 => fun (rs : List Value) (w : World) => (Kd.int .u8).R 5 w gp (fun _ => True) (rs.getD 2 undef) ([5] ++ pb) | 4 => fun (rs : List Value) (w : World) => (Kd.int .u8).R 5 w gp (fun _ => True) (rs.getD 3 undef) ([5] ++ pb) | _ => fun _ _ => False)
          (fun _ _ _ => True) (fun w => Below gp V0 w ∧ gp ≤ w.heap.size)
          (fun j =>  none)
          [(0, some 23), (1, some 24), (2, some 25), (3, some 26), (4, some 27), (5, some 2)]
          []
          (by kernel_rfl) (by kernel_rfl) (by kernel_rfl) (by kernel_rfl) (by kernel_rfl) ?z10_2c ?z10_2i ?z10_2b ?z10_2d ?z10_2g ⟨?z10_2t0, ?z10_2t1, ?z10_2t2, ?z10_2t3, ?z10_2t4, ?z10_2t5, trivial⟩ ⟨?z10_2o0, ?z10_2o1, ?z10_2o2, ?z10_2o3, ?z10_2o4, ?z10_2o5, trivial⟩ ?z10_2e
        case z10_2c => exact ⟨HB1.out.trans (below_drew (Below.refl _ _)), Nat.le_of_lt (blk_lt HP1.out.1)⟩
        case z10_2i => exact ⟨_, HP1.out⟩
        case z10_2b => intro w w' hb h; exact ⟨h.1.trans (hb.mono h.2), Nat.le_trans h.2 hb.size⟩
        case z10_2d =>
          intro t rs w w' hb h
          match t, h with
          | 0, h => (replace h : ∃ v, Pn w gp gp [5] v := h); show ∃ v, Pn w' gp gp [5] v; first | exact Kd.R_below h hb | exact ⟨Kd.R_below h.1 hb, Kd.R_below h.2 hb⟩ | (obtain ⟨v, h⟩ := h; exact ⟨v, h.below hb⟩)
          | 1, h => (replace h : (Kd.int .u8).R 5 w gp (fun _ => True) (rs.getD 0 undef) [5] := h); show (Kd.int .u8).R 5 w' gp (fun _ => True) (rs.getD 0 undef) [5]; first | exact Kd.R_below h hb | exact ⟨Kd.R_below h.1 hb, Kd.R_below h.2 hb⟩ | (obtain ⟨v, h⟩ := h; exact ⟨v, h.below hb⟩)
          | 2, h => (replace h : (Kd.int .u8).R 5 w gp (fun _ => True) (rs.getD 0 undef) [5] ∧ (Kd.int .u8).R 5 w gp (fun _ => True) (rs.getD 1 undef) pb := h); show (Kd.int .u8).R 5 w' gp (fun _ => True) (rs.getD 0 undef) [5] ∧ (Kd.int .u8).R 5 w' gp (fun _ => True) (rs.getD 1 undef) pb; first | exact Kd.R_below h hb | exact ⟨Kd.R_below h.1 hb, Kd.R_below h.2 hb⟩ | (obtain ⟨v, h⟩ := h; exact ⟨v, h.below hb⟩)
          | 3, h => (replace h : (Kd.int .u8).R 5 w gp (fun _ => True) (rs.getD 2 undef) ([5] ++ pb) := h); show (Kd.int .u8).R 5 w' gp (fun _ => True) (rs.getD 2 undef) ([5] ++ pb); first | exact Kd.R_below h hb | exact ⟨Kd.R_below h.1 hb, Kd.R_below h.2 hb⟩ | (obtain ⟨v, h⟩ := h; exact ⟨v, h.below hb⟩)
          | 4, h => (replace h : (Kd.int .u8).R 5 w gp (fun _ => True) (rs.getD 3 undef) ([5] ++ pb) := h); show (Kd.int .u8).R 5 w' gp (fun _ => True) (rs.getD 3 undef) ([5] ++ pb); first | exact Kd.R_below h hb | exact ⟨Kd.R_below h.1 hb, Kd.R_below h.2 hb⟩ | (obtain ⟨v, h⟩ := h; exact ⟨v, h.below hb⟩)
          | _ + 5, h => exact h.elim
        case z10_2g =>
          intro j hj; cases hj
        case z10_2t0 => exact StabS.const _ _ _ _
        case z10_2t1 => exact StabS.const _ _ _ _
        case z10_2t2 => exact StabS.const _ _ _ _
        case z10_2t3 => exact StabS.const _ _ _ _
        case z10_2t4 => exact StabS.const _ _ _ _
        case z10_2t5 => exact StabS.const _ _ _ _
        case z10_2o0 =>
          intro vs w hC hS hV
          replace hS : ∃ v, Pn w gp gp [5] v := hS
          rw [if_pos (by kernel_rfl)]
          generalize hρ : rho _ _ _ vs = ρ
          have e3 : ρ (.tmp 3) = .pointer (some ⟨gp, 0, none⟩) := by rw [← hρ]; kernel_rfl
          have ef40 : ρ (.func 40) = .func (.func 40) #[] #[] := by rw [← hρ]; rfl
          clear hρ hV
          obtain ⟨v, hp⟩ := hS
          refine runs_call (f := 40) (args := #[.pointer (some ⟨gp, 0, none⟩)]) (w' := w) ?_ ?_
          · go_simp
          · refine (pbytes_any gp gp [5] v w hp (by simp)).mono ?_
            rintro e w5 ⟨v9, rfl, hr9, hb9⟩
            exact ⟨_, rfl, ⟨hC.1.trans (hb9.mono hC.2), Nat.le_trans hC.2 hb9.size⟩, trivial, trivial, Kd.R_lower hr9 hC.2⟩
        case z10_2o1 =>
          intro vs w t hC ht1 ht2 hS hV
          rw [if_pos (by kernel_rfl)]
          generalize hρ : rho _ _ _ vs = ρ
          have e1 : ρ (.tmp 1) = .pointer (some ⟨B, 0, none⟩) := by rw [← hρ]; kernel_rfl
          clear hρ hV
          refine runs_val (v := .pointer (some ⟨B, 3, none⟩)) (w' := w) ?_ ⟨Below.refl _ _, rfl⟩
          clear ht1 ht2 hS hC
          go_simp <;> (first | exact IntWalk.u64_in _ (by omega) | exact IntWalk.u32_in _ (by omega) | exact IntWalk.u16_in _ (by omega) | exact IntWalk.u8_in _ (by omega) | exact IntWalk.i64_in _ (by omega) | skip)
        case z10_2o2 =>
          intro vs w t hC ht1 ht2 hS hV
          rw [if_pos (by kernel_rfl)]
          generalize hρ : rho _ _ _ vs = ρ
          have d24 : (vs 1) = .pointer (some ⟨B, 3, none⟩) := hV 1 (by kernel_rfl)
          have e24 : ρ (.tmp 24) = vs 1 := by rw [← hρ]; kernel_rfl
          rw [d24] at e24; clear d24
          clear hρ hV
          have c3 := HCL.out.2.2.2.1 w hC.1
          have c4 := HCL.out.2.2.2.2.1 w hC.1
          have c5 := HCL.out.2.2.2.2.2.1 w hC.1
          have c6 := HCL.out.2.2.2.2.2.2 w hC.1
          refine runs_val (v := .agg #[.int .u32 tk, .int .u32 hs, .slice A n c, .slice A2 nc c2]) (w' := w) ?_ ⟨Below.refl _ _, rfl⟩
          clear ht1 ht2 hS hC
          go_simp
        case z10_2o3 =>
          intro vs w hC hS hV
          replace hS : (Kd.int .u8).R 5 w gp (fun _ => True) (vs 0) [5] := hS
          rw [if_pos (by kernel_rfl)]
          generalize hρ : rho _ _ _ vs = ρ
          have d25 : (vs 2) = .agg #[.int .u32 tk, .int .u32 hs, .slice A n c, .slice A2 nc c2] := hV 2 (by kernel_rfl)
          have e25 : ρ (.tmp 25) = vs 2 := by rw [← hρ]; kernel_rfl
          rw [d25] at e25; clear d25
          have ef41 : ρ (.func 41) = .func (.func 41) #[] #[] := by rw [← hρ]; rfl
          clear hρ hV
          refine runs_call (f := 41) (args := #[.agg #[.int .u32 tk, .int .u32 hs, .slice A n c, .slice A2 nc c2]]) (w' := w) ?_ ?_
          · go_simp
          · refine (KB.out w (HW0.out w hC.1)).mono ?_
            rintro e w5 ⟨v9, rfl, hr9, hb9⟩
            exact ⟨_, rfl, ⟨hC.1.trans (hb9.mono hC.2), Nat.le_trans hC.2 hb9.size⟩, trivial, trivial, Kd.R_below hS hb9, Kd.R_lower hr9 hC.2⟩
        case z10_2o4 =>
          intro vs w hC hS hV
          replace hS : (Kd.int .u8).R 5 w gp (fun _ => True) (vs 0) [5] ∧ (Kd.int .u8).R 5 w gp (fun _ => True) (vs 3) pb := hS
          rw [if_pos (by kernel_rfl)]
          generalize hρ : rho _ _ _ vs = ρ
          have d23 : (fun (w : World) (v : Value) => True) w (vs 0) := hV 0 (by kernel_rfl)
          have e23 : ρ (.tmp 23) = vs 0 := by rw [← hρ]; kernel_rfl
          have d26 : (fun (w : World) (v : Value) => True) w (vs 3) := hV 3 (by kernel_rfl)
          have e26 : ρ (.tmp 26) = vs 3 := by rw [← hρ]; kernel_rfl
          clear hρ hV
          obtain ⟨A5, c5, h5, l5, q5⟩ := Kd.R_reads hS.2
          rw [h5] at e26
          refine runs_append (Kd.int .u8) (Rr := fun x cs => cs = [.int .u8 x]) gp 23 26 23 5 (.int .u8 0) 1 rfl Try.underlying23 np_info rfl (by decide) (by decide) (vs 0) [5] pb A5 pb.length c5 (fun _ => True) (fun _ => False) e23 e26 hS.1 q5 (fun _ _ h => h) (fun _ h => h.elim) (fun _ _ => trivial) hC.2 (by have := HPL.out; simp; omega) ?_
          intro v1 w1 h1 hg1 hat
          exact ⟨⟨hC.1.trans ((Below.refl gp w).grown hg1 hC.2 (fun j hj => Kd.R_base hS.1 j hj)), Nat.le_trans hC.2 hg1.size⟩, trivial, trivial, h1⟩
        case z10_2o5 =>
          intro vs w hC hS hV
          replace hS : (Kd.int .u8).R 5 w gp (fun _ => True) (vs 4) ([5] ++ pb) := hS
          rw [if_pos (by kernel_rfl)]
          generalize hρ : rho _ _ _ vs = ρ
          have d27 : (fun (w : World) (v : Value) => True) w (vs 4) := hV 4 (by kernel_rfl)
          have e27 : ρ (.tmp 27) = vs 4 := by rw [← hρ]; kernel_rfl
          clear hρ hV
          refine runs_val (v := vs 4) (w' := w) ?_ ⟨hC, trivial, trivial, hS⟩
          clear hS hC
          go_simp
        case z10_2e =>
          intro vs V2 hC hS hV
          replace hS : (fun (w : World) => (Kd.int .u8).R 5 w gp (fun _ => True) (vs 5) ([5] ++ pb)) V2 := hS
          have d23 : (fun (w : World) (v : Value) => True) V2 (vs 0) := hV 0 (Nat.le_of_ble_eq_true rfl)
          have d24 : (vs 1) = .pointer (some ⟨B, 3, none⟩) := hV 1 (Nat.le_of_ble_eq_true rfl)
          have d25 : (vs 2) = .agg #[.int .u32 tk, .int .u32 hs, .slice A n c, .slice A2 nc c2] := hV 2 (Nat.le_of_ble_eq_true rfl)
          have d26 : (fun (w : World) (v : Value) => True) V2 (vs 3) := hV 3 (Nat.le_of_ble_eq_true rfl)
          have d27 : (fun (w : World) (v : Value) => True) V2 (vs 4) := hV 4 (Nat.le_of_ble_eq_true rfl)
          have d2 : (fun (w : World) (v : Value) => True) V2 (vs 5) := hV 5 (Nat.le_of_ble_eq_true rfl)
          clear hV
          simp only [putAll]
          rw [d24, d25]
          clear d24 d25
          generalize vs 0 = v23 at *
          generalize vs 3 = v26 at *
          generalize vs 4 = v27 at *
          generalize vs 5 = v2 at *
          clear vs
          simp only [Act.put, List.setIfInBounds_toArray, List.set_cons_zero, List.set_cons_succ]
          have HR2 := Aside0.mk (Kd.R_lower hS (Nat.le_of_lt GD.out))
          have HB2 := Aside0.mk (HW0.out _ hC.1)
          clear hS hC
          go_wp2_with fail
          go_ret
          rw [HB.out, HE.out]
          exact ⟨_, rfl, HR2.out, HB2.out⟩
      · skip
        by_cases h6 : k = 6
        · subst h6
          have HE : Aside0 (mb = [6] ++ pb) := ⟨HMB.out⟩
          clear HMB
          go_wp2_with fail
          clear c0
          refine regionS (W := V1)
            [fun _ _ => True,
             fun _ v => v = .pointer (some ⟨B, 3, none⟩),
             fun _ v => v = .agg #[.int .u32 tk, .int .u32 hs, .slice A n c, .slice A2 nc c2],
             fun _ _ => True,
             fun _ _ => True,
             fun _ _ => True]
            [0, 3, 4, 5]
            (fun t => match t with | 0 => fun (rs : List Value) (w : World) => ∃ v, Pn w gp gp [6] v | 1 => fun (rs : List Value) (w : World) => (Kd.int .u8).R 5 w gp (fun _ => True) (rs.getD 0 undef) [6] | 2 => fun (rs : List Value) (w : World) => (Kd.int .u8).R 5 w gp (fun _ => True) (rs.getD 0 undef) [6] ∧ (Kd.int .u8).R 5 w gp (fun _ => True) (rs.getD 1 undef) pb | 3 => fun (rs : List Value) (w : World) => (Kd.int .u8).R 5 w gp (fun _ => True) (rs.getD 2 undef) ([6] ++ pb) | 4 => fun (rs : List Value) (w : World) => (Kd.int .u8).R 5 w gp (fun _ => True) (rs.getD 3 undef) ([6] ++ pb) | _ => fun _ _ => False)
            (fun _ _ _ => True) (fun w => Below gp V0 w ∧ gp ≤ w.heap.size)
            (fun j =>  none)
            [(0, some 23), (1, some 24), (2, some 25), (3, some 26), (4, some 27), (5, some 2)]
            []
            (by kernel_rfl) (by kernel_rfl) (by kernel_rfl) (by kernel_rfl) (by kernel_rfl) ?z10_3c ?z10_3i ?z10_3b ?z10_3d ?z10_3g ⟨?z10_3t0, ?z10_3t1, ?z10_3t2, ?z10_3t3, ?z10_3t4, ?z10_3t5, trivial⟩ ⟨?z10_3o0, ?z10_3o1, ?z10_3o2, ?z10_3o3, ?z10_3o4, ?z10_3o5, trivial⟩ ?z10_3e
          case z10_3c => exact ⟨HB1.out.trans (below_drew (Below.refl _ _)), Nat.le_of_lt (blk_lt HP1.out.1)⟩
          case z10_3i => exact ⟨_, HP1.out⟩
          case z10_3b => intro w w' hb h; exact ⟨h.1.trans (hb.mono h.2), Nat.le_trans h.2 hb.size⟩
          case z10_3d =>
            intro t rs w w' hb h
            match t, h with
            | 0, h => (replace h : ∃ v, Pn w gp gp [6] v := h); show ∃ v, Pn w' gp gp [6] v; first | exact Kd.R_below h hb | exact ⟨Kd.R_below h.1 hb, Kd.R_below h.2 hb⟩ | (obtain ⟨v, h⟩ := h; exact ⟨v, h.below hb⟩)
            | 1, h => (replace h : (Kd.int .u8).R 5 w gp (fun _ => True) (rs.getD 0 undef) [6] := h); show (Kd.int .u8).R 5 w' gp (fun _ => True) (rs.getD 0 undef) [6]; first | exact Kd.R_below h hb | exact ⟨Kd.R_below h.1 hb, Kd.R_below h.2 hb⟩ | (obtain ⟨v, h⟩ := h; exact ⟨v, h.below hb⟩)
            | 2, h => (replace h : (Kd.int .u8).R 5 w gp (fun _ => True) (rs.getD 0 undef) [6] ∧ (Kd.int .u8).R 5 w gp (fun _ => True) (rs.getD 1 undef) pb := h); show (Kd.int .u8).R 5 w' gp (fun _ => True) (rs.getD 0 undef) [6] ∧ (Kd.int .u8).R 5 w' gp (fun _ => True) (rs.getD 1 undef) pb; first | exact Kd.R_below h hb | exact ⟨Kd.R_below h.1 hb, Kd.R_below h.2 hb⟩ | (obtain ⟨v, h⟩ := h; exact ⟨v, h.below hb⟩)
            | 3, h => (replace h : (Kd.int .u8).R 5 w gp (fun _ => True) (rs.getD 2 undef) ([6] ++ pb) := h); show (Kd.int .u8).R 5 w' gp (fun _ => True) (rs.getD 2 undef) ([6] ++ pb); first | exact Kd.R_below h hb | exact ⟨Kd.R_below h.1 hb, Kd.R_below h.2 hb⟩ | (obtain ⟨v, h⟩ := h; exact ⟨v, h.below hb⟩)
            | 4, h => (replace h : (Kd.int .u8).R 5 w gp (fun _ => True) (rs.getD 3 undef) ([6] ++ pb) := h); show (Kd.int .u8).R 5 w' gp (fun _ => True) (rs.getD 3 undef) ([6] ++ pb); first | exact Kd.R_below h hb | exact ⟨Kd.R_below h.1 hb, Kd.R_below h.2 hb⟩ | (obtain ⟨v, h⟩ := h; exact ⟨v, h.below hb⟩)
            | _ + 5, h => exact h.elim
          case z10_3g =>
            intro j hj; cases hj
          case z10_3t0 => exact StabS.const _ _ _ _
          case z10_3t1 => exact StabS.const _ _ _ _
          case z10_3t2 => exact StabS.const _ _ _ _
          case z10_3t3 => exact StabS.const _ _ _ _
          case z10_3t4 => exact StabS.const _ _ _ _
          case z10_3t5 => exact StabS.const _ _ _ _
          case z10_3o0 =>
            intro vs w hC hS hV
            replace hS : ∃ v, Pn w gp gp [6] v := hS
            rw [if_pos (by kernel_rfl)]
            generalize hρ : rho _ _ _ vs = ρ
            have e3 : ρ (.tmp 3) = .pointer (some ⟨gp, 0, none⟩) := by rw [← hρ]; kernel_rfl
            have ef40 : ρ (.func 40) = .func (.func 40) #[] #[] := by rw [← hρ]; rfl
            clear hρ hV
            obtain ⟨v, hp⟩ := hS
            refine runs_call (f := 40) (args := #[.pointer (some ⟨gp, 0, none⟩)]) (w' := w) ?_ ?_
            · go_simp
            · refine (pbytes_any gp gp [6] v w hp (by simp)).mono ?_
              rintro e w5 ⟨v9, rfl, hr9, hb9⟩
              exact ⟨_, rfl, ⟨hC.1.trans (hb9.mono hC.2), Nat.le_trans hC.2 hb9.size⟩, trivial, trivial, Kd.R_lower hr9 hC.2⟩
          case z10_3o1 =>
            intro vs w t hC ht1 ht2 hS hV
            rw [if_pos (by kernel_rfl)]
            generalize hρ : rho _ _ _ vs = ρ
            have e1 : ρ (.tmp 1) = .pointer (some ⟨B, 0, none⟩) := by rw [← hρ]; kernel_rfl
            clear hρ hV
            refine runs_val (v := .pointer (some ⟨B, 3, none⟩)) (w' := w) ?_ ⟨Below.refl _ _, rfl⟩
            clear ht1 ht2 hS hC
            go_simp <;> (first | exact IntWalk.u64_in _ (by omega) | exact IntWalk.u32_in _ (by omega) | exact IntWalk.u16_in _ (by omega) | exact IntWalk.u8_in _ (by omega) | exact IntWalk.i64_in _ (by omega) | skip)
          case z10_3o2 =>
            intro vs w t hC ht1 ht2 hS hV
            rw [if_pos (by kernel_rfl)]
            generalize hρ : rho _ _ _ vs = ρ
            have d24 : (vs 1) = .pointer (some ⟨B, 3, none⟩) := hV 1 (by kernel_rfl)
            have e24 : ρ (.tmp 24) = vs 1 := by rw [← hρ]; kernel_rfl
            rw [d24] at e24; clear d24
            clear hρ hV
            have c3 := HCL.out.2.2.2.1 w hC.1
            have c4 := HCL.out.2.2.2.2.1 w hC.1
            have c5 := HCL.out.2.2.2.2.2.1 w hC.1
            have c6 := HCL.out.2.2.2.2.2.2 w hC.1
            refine runs_val (v := .agg #[.int .u32 tk, .int .u32 hs, .slice A n c, .slice A2 nc c2]) (w' := w) ?_ ⟨Below.refl _ _, rfl⟩
            clear ht1 ht2 hS hC
            go_simp
          case z10_3o3 =>
            intro vs w hC hS hV
            replace hS : (Kd.int .u8).R 5 w gp (fun _ => True) (vs 0) [6] := hS
            rw [if_pos (by kernel_rfl)]
            generalize hρ : rho _ _ _ vs = ρ
            have d25 : (vs 2) = .agg #[.int .u32 tk, .int .u32 hs, .slice A n c, .slice A2 nc c2] := hV 2 (by kernel_rfl)
            have e25 : ρ (.tmp 25) = vs 2 := by rw [← hρ]; kernel_rfl
            rw [d25] at e25; clear d25
            have ef41 : ρ (.func 41) = .func (.func 41) #[] #[] := by rw [← hρ]; rfl
            clear hρ hV
            refine runs_call (f := 41) (args := #[.agg #[.int .u32 tk, .int .u32 hs, .slice A n c, .slice A2 nc c2]]) (w' := w) ?_ ?_
            · go_simp
            · refine (KB.out w (HW0.out w hC.1)).mono ?_
              rintro e w5 ⟨v9, rfl, hr9, hb9⟩
              exact ⟨_, rfl, ⟨hC.1.trans (hb9.mono hC.2), Nat.le_trans hC.2 hb9.size⟩, trivial, trivial, Kd.R_below hS hb9, Kd.R_lower hr9 hC.2⟩
          case z10_3o4 =>
            intro vs w hC hS hV
            replace hS : (Kd.int .u8).R 5 w gp (fun _ => True) (vs 0) [6] ∧ (Kd.int .u8).R 5 w gp (fun _ => True) (vs 3) pb := hS
            rw [if_pos (by kernel_rfl)]
            generalize hρ : rho _ _ _ vs = ρ
            have d23 : (fun (w : World) (v : Value) => True) w (vs 0) := hV 0 (by kernel_rfl)
            have e23 : ρ (.tmp 23) = vs 0 := by rw [← hρ]; kernel_rfl
            have d26 : (fun (w : World) (v : Value) => True) w (vs 3) := hV 3 (by kernel_rfl)
            have e26 : ρ (.tmp 26) = vs 3 := by rw [← hρ]; kernel_rfl
            clear hρ hV
            obtain ⟨A5, c5, h5, l5, q5⟩ := Kd.R_reads hS.2
            rw [h5] at e26
            refine runs_append (Kd.int .u8) (Rr := fun x cs => cs = [.int .u8 x]) gp 23 26 23 5 (.int .u8 0) 1 rfl Try.underlying23 np_info rfl (by decide) (by decide) (vs 0) [6] pb A5 pb.length c5 (fun _ => True) (fun _ => False) e23 e26 hS.1 q5 (fun _ _ h => h) (fun _ h => h.elim) (fun _ _ => trivial) hC.2 (by have := HPL.out; simp; omega) ?_
            intro v1 w1 h1 hg1 hat
            exact ⟨⟨hC.1.trans ((Below.refl gp w).grown hg1 hC.2 (fun j hj => Kd.R_base hS.1 j hj)), Nat.le_trans hC.2 hg1.size⟩, trivial, trivial, h1⟩
          case z10_3o5 =>
            intro vs w hC hS hV
            replace hS : (Kd.int .u8).R 5 w gp (fun _ => True) (vs 4) ([6] ++ pb) := hS
            rw [if_pos (by kernel_rfl)]
            generalize hρ : rho _ _ _ vs = ρ
            have d27 : (fun (w : World) (v : Value) => True) w (vs 4) := hV 4 (by kernel_rfl)
            have e27 : ρ (.tmp 27) = vs 4 := by rw [← hρ]; kernel_rfl
            clear hρ hV
            refine runs_val (v := vs 4) (w' := w) ?_ ⟨hC, trivial, trivial, hS⟩
            clear hS hC
            go_simp
          case z10_3e =>
            intro vs V2 hC hS hV
            replace hS : (fun (w : World) => (Kd.int .u8).R 5 w gp (fun _ => True) (vs 5) ([6] ++ pb)) V2 := hS
            have d23 : (fun (w : World) (v : Value) => True) V2 (vs 0) := hV 0 (Nat.le_of_ble_eq_true rfl)
            have d24 : (vs 1) = .pointer (some ⟨B, 3, none⟩) := hV 1 (Nat.le_of_ble_eq_true rfl)
            have d25 : (vs 2) = .agg #[.int .u32 tk, .int .u32 hs, .slice A n c, .slice A2 nc c2] := hV 2 (Nat.le_of_ble_eq_true rfl)
            have d26 : (fun (w : World) (v : Value) => True) V2 (vs 3) := hV 3 (Nat.le_of_ble_eq_true rfl)
            have d27 : (fun (w : World) (v : Value) => True) V2 (vs 4) := hV 4 (Nat.le_of_ble_eq_true rfl)
            have d2 : (fun (w : World) (v : Value) => True) V2 (vs 5) := hV 5 (Nat.le_of_ble_eq_true rfl)
            clear hV
            simp only [putAll]
            rw [d24, d25]
            clear d24 d25
            generalize vs 0 = v23 at *
            generalize vs 3 = v26 at *
            generalize vs 4 = v27 at *
            generalize vs 5 = v2 at *
            clear vs
            simp only [Act.put, List.setIfInBounds_toArray, List.set_cons_zero, List.set_cons_succ]
            have HR2 := Aside0.mk (Kd.R_lower hS (Nat.le_of_lt GD.out))
            have HB2 := Aside0.mk (HW0.out _ hC.1)
            clear hS hC
            go_wp2_with fail
            go_ret
            rw [HB.out, HE.out]
            exact ⟨_, rfl, HR2.out, HB2.out⟩
        · skip
          have HE : Aside0 (mb = [k]) := ⟨by rw [HMB.out, if_neg h2, if_neg (by omega)]⟩
          clear HMB
          go_wp2_with fail
          refine (pbytes_any gp gp [k] v1 V1 HP1.out (by simp [lowN_length])).mono ?_
          rintro e V9 ⟨v9, rfl, hr9, hb9⟩
          have HR9 := Aside0.mk (Kd.R_lower hr9 (Nat.le_trans (Nat.le_of_lt GD.out) (Nat.le_of_lt (blk_lt HP1.out.1))))
          have HB9 := Aside0.mk (HW0.out _ (HB1.out.trans (hb9.mono (Nat.le_of_lt (blk_lt HP1.out.1)))))
          clear hr9 hb9
          go_wp2_with fail
          go_ret
          rw [HB.out, HE.out]
          exact ⟨_, rfl, HR9.out, HB9.out⟩
end Go.Proofs.Yticpjidcgaaldaa

namespace Go.Proofs.Yticpjidcgaaldaa
open Go.RowKit Go.Proofs.YticpjidcgaaldaaW.PrintWords Go.Proofs.YticpjidcgaaldaaW.PrintLast Go.Proofs.YticpjidcgaaldaaW.PrintMore
set_option linter.unusedVariables false
set_option linter.unusedSimpArgs false

/-- What is read of any bytes. -/
structure MRes where
  ok : Bool
  k : Int
  t : Int
  m : Int
  tk : Int
  hs : Int
  P : List Int
  C : List S59
def badR : MRes := ⟨false, 0, 0, 0, 0, 0, [], []⟩
def readR : List Int → MRes
  | [] => badR
  | x :: r => if x = 2 then (if r.length = 8 then ⟨true, 2, leN (r.take 4), leN ((r.drop 4).take 4), 0, 0, [], []⟩ else badR)
    else if x = 5 ∨ x = 6 then (if okD r = true then ⟨true, x, tkQ r, 0, tkQ r, hsQ r, plQ r, clQ r⟩ else badR)
    else if x = 1 ∨ x = 3 ∨ x = 4 then (if r.length = 0 then ⟨true, x, 0, 0, 0, 0, [], []⟩ else badR) else badR
theorem readR_two (r : List Int) : readR (2 :: r) = if r.length = 8 then ⟨true, 2, leN (r.take 4), leN ((r.drop 4).take 4), 0, 0, [], []⟩ else badR := by simp only [readR, if_true]
theorem readR_five {x : Int} (r : List Int) (h2 : ¬ x = 2) (h : x = 5 ∨ x = 6) : readR (x :: r) = if okD r = true then ⟨true, x, tkQ r, 0, tkQ r, hsQ r, plQ r, clQ r⟩ else badR := by simp only [readR]; rw [if_neg h2, if_pos h]
theorem readR_oth {x : Int} (r : List Int) (h2 : ¬ x = 2) (h : ¬ (x = 5 ∨ x = 6)) : readR (x :: r) = if x = 1 ∨ x = 3 ∨ x = 4 then (if r.length = 0 then ⟨true, x, 0, 0, 0, 0, [], []⟩ else badR) else badR := by simp only [readR]; rw [if_neg h2, if_neg h]
theorem OfR.msg {b : Nat} {w : World} {k t m tk hs : Int} {P : List Int} {C : List S59} {x y : Value} (h : OfR b w tk hs P C (.agg #[.int .u32 tk, .int .u32 hs, x, y])) : MsC w k t m tk hs P C (.agg #[.int .u8 k, .int .u32 t, .int .u32 m, .int .u32 tk, .int .u32 hs, x, y]) := by
  obtain ⟨A, c, A2, c2, he, h1, h2, h3, h4⟩ := h.cells
  injection he with he
  simp only [Array.mk.injEq, List.cons.injEq, and_true, true_and] at he
  obtain ⟨rfl, rfl⟩ := he
  exact ⟨A, c, A2, c2, rfl, h1, h2, h3, h4⟩
theorem parse_formR {q : List Int} {b : Nat} {w' : World} {e : Ending} (h : ParseR q b w' e) : ∃ A n c A2 m c2, e = .returned (.tuple #[.agg #[.int .u32 (tkQ q), .int .u32 (hsQ q), .slice A n c, .slice A2 m c2], .int .i64 (ecD q)]) ∧
    OfR b w' (tkQ q) (hsQ q) (plQ q) (clQ q) (.agg #[.int .u32 (tkQ q), .int .u32 (hsQ q), .slice A n c, .slice A2 m c2]) := by
  unfold ParseR at h
  unfold tkQ hsQ plQ clQ ecD
  by_cases hk : okD q = true
  · simp only [hk, if_true] at h ⊢
    obtain ⟨v, rfl, hv⟩ := h
    obtain ⟨A, c, A2, c2, rfl, h1, h2, h3, h4⟩ := hv
    exact ⟨A, _, c, A2, _, c2, rfl, A, c, A2, c2, rfl, h1, h2, h3, h4⟩
  · simp only [hk, if_false] at h ⊢
    subst h
    exact ⟨none, 0, 0, none, 0, 0, rfl, none, 0, none, 0, rfl, Nat.le_refl _, Nat.le_refl _, Kd.R_nil _ _ _ _ _, Kd.R_nil _ _ _ _ _⟩
theorem Hp.eyeL {B0 B ge : Nat} {w0 w w' : World} {L : List (Nat × Obj)} {l : List Int} {b : Bool} (h : Hp B0 w0 w L []) (he : EyTo w w' ge B l b) (h0 : B0 ≤ ge) (hne : ∀ p ∈ L, p.1 ≠ ge) : Hp B0 w0 w' L [] :=
  ⟨h.1.trans (he.2.2.mono h0), fun p hp => ⟨(he.2.1.2 p.1 (blk_lt (h.2.1 p hp).1) (hne p hp) (by simp)).trans (h.2.1 p hp).1, (h.2.1 p hp).2⟩, h.2.2.1, Nat.le_trans h.le he.2.1.1, fun φ hφ => by cases hφ⟩
theorem zero_msg (w : World) : (zeroValue 28).run Try.prog w = .ok (.agg #[.int .u8 0, .int .u32 0, .int .u32 0, .int .u32 0, .int .u32 0, .slice none 0 0, .slice none 0 0]) w := by kernel_rfl
theorem MsC_zero (w : World) (k t m : Int) : MsC w k t m 0 0 [] [] (.agg #[.int .u8 k, .int .u32 t, .int .u32 m, .int .u32 0, .int .u32 0, .slice none 0 0, .slice none 0 0]) :=
  ⟨none, 0, none, 0, rfl, Nat.le_refl _, Nat.le_refl _, Kd.C_nil _ _, Kd.C_nil _ _⟩
theorem OkM_zero {k t m : Int} (hk : 0 ≤ k ∧ k < 256) (ht : 0 ≤ t ∧ t < 4294967296) (hm : 0 ≤ m ∧ m < 4294967296) : OkM k t m 0 0 [] [] := ⟨hk, ht, hm, by omega, by omega, Bytes.nil, (fun y hy => by cases hy), by simp, by simp⟩
def ReadM (q : List Int) (w' : World) (e : Ending) : Prop := ∃ v, e = .returned (.tuple #[v, .int .i64 (if (readR q).ok = true then 0 else 2)]) ∧ MsC w' (readR q).k (readR q).t (readR q).m (readR q).tk (readR q).hs (readR q).P (readR q).C v
theorem ReadM.of {q : List Int} {r : MRes} {w' : World} {v : Value} (hq : readR q = r) (hv : MsC w' r.k r.t r.m r.tk r.hs r.P r.C v) : ReadM q w' (.returned (.tuple #[v, .int .i64 (if r.ok = true then 0 else 2)])) := by
  subst hq; exact ⟨v, rfl, hv⟩

set_option maxRecDepth 100000 in
set_option maxHeartbeats 16000000 in
theorem mread_any (A : Option Addr) (n c : Nat) (q : List Int) (w00 : World) (hq : (Kd.int .u8).C w00 A n q) (hc : n ≤ c) (hn : n ≤ 100000000) (hb : Bytes q) :
    Calls Try.prog 17 #[.slice A n c] w00 fun e w' => ReadM q w' e ∧ Below w00.heap.size w00 w' := by
  have HF : Aside0 (∀ z, Below w00.heap.size w00 z → (Kd.int .u8).C z A n q) := ⟨fun z hz => Kd.C_below hq hz⟩
  obtain ⟨B, hB⟩ : ∃ B, w00.heap.size = B := ⟨_, rfl⟩
  have H0 := Aside0.mk ((Hp.start w00).allocAt (.cells #[.int .u8 0, .int .u32 0, .int .u32 0, .int .u32 0, .int .u32 0, .slice none 0 0, .slice none 0 0] 28) B hB)
  rw [hB] at H0 HF
  rw [hB]
  have HN := Aside0.mk (And.intro hn (And.intro hc hq.1))
  have HBQ := Aside0.mk hb
  have KR := Aside0.mk (fun (z : World) (h : Below B w00 z) => read_any A n c q z (HF.out z h) hn)
  have HB := Aside0.mk hB
  have hz7 := zero_msg
  clear hq hn hb hc
  go_enter Try.func17, Try.ntmps17
  go_wp2_with fail
  clear hB
  refine (KR.out _ H0.out.bel).mono ?_
  rintro e w1 ⟨ge, rfl, hge, hEy, hb1⟩
  obtain ⟨BB, hBB⟩ : ∃ BB, w1.heap.size = BB := ⟨_, rfl⟩
  rw [hBB] at hEy
  have hgB : ge < BB := by obtain ⟨_, _, _, _, _, _, _, h5⟩ := hEy; exact h5
  have hge2 : B < ge := Nat.lt_of_lt_of_le (H0.out.lt (i := 0) rfl) hge
  have HGE := Aside0.mk (And.intro hge2 (And.intro hgB (show BB ≤ w1.heap.size by omega)))
  have H1 := Aside0.mk (H0.out.call hb1)
  have HE1 := Aside0.mk hEy
  clear hge hEy hb1 hBB hge2 hgB H0 KR
  obtain ⟨⟨x, l1, b1⟩, e1⟩ : ∃ y, eByte q false = y := ⟨_, rfl⟩
  have K1 := ebyte_any ge BB q false w1 HE1.out
  rw [e1] at K1
  have KK1 := Aside0.mk K1
  have HEB := Aside0.mk e1
  clear K1 e1
  go_wp2_with fail
  refine KK1.out.mono ?_
  rintro e w2 ⟨rfl, he2⟩
  have H2 := Aside0.mk (H1.out.eyeL he2 (Nat.le_of_lt HGE.out.1) (fun p hp => by obtain rfl := List.mem_singleton.1 hp; exact Nat.ne_of_lt HGE.out.1))
  have HE2 := Aside0.mk he2.1
  have HS2 : Aside0 (ge < w2.heap.size ∧ BB ≤ w2.heap.size) := ⟨Nat.lt_of_lt_of_le HGE.out.2.1 (Nat.le_trans HGE.out.2.2 he2.2.1.1), Nat.le_trans HGE.out.2.2 he2.2.1.1⟩
  clear he2 H1 HE1 KK1
  obtain ⟨g5, hg5⟩ : ∃ g5, w2.heap.size = g5 := ⟨_, rfl⟩
  have H3 := Aside0.mk (H2.out.allocAt (.cells #[.int .u8 x, .int .u32 0, .int .u32 0, .int .u32 0, .int .u32 0, .slice none 0 0, .slice none 0 0] 28) g5 hg5)
  have HE3 := Aside0.mk (HE2.out.below ((below_alloc (Below.refl w2.heap.size w2) (.cells #[.int .u8 x, .int .u32 0, .int .u32 0, .int .u32 0, .int .u32 0, .slice none 0 0, .slice none 0 0] 28)).mono HS2.out.2) HS2.out.2)
  have HG5 : Aside0 (ge < g5 ∧ B < g5 ∧ BB ≤ g5) := ⟨by rw [← hg5]; exact HS2.out.1, by have := HGE.out.1; have := HS2.out.1; omega, by rw [← hg5]; exact HS2.out.2⟩
  clear H2 HE2 HS2
  have HG5E := Aside0.mk hg5
  have HX : Aside0 (0 ≤ x ∧ x < 256) := ⟨by have := (eByte_b (bad := false) HBQ.out).1; rw [HEB.out] at this; exact this⟩
  have HBL1 : Aside0 (Bytes l1) := ⟨by have := (eByte_b (bad := false) HBQ.out).2; rw [HEB.out] at this; exact this⟩
  have HQ : Aside0 ((q = [] ∧ x = 0 ∧ l1 = [] ∧ b1 = true) ∨ (q = x :: l1 ∧ b1 = false)) := ⟨by
    have e1 := HEB.out
    cases q with
    | nil => rw [eByte_short (by simp)] at e1; simp only [Prod.mk.injEq] at e1; exact .inl ⟨rfl, e1.1.symm, e1.2.1.symm, e1.2.2.symm⟩
    | cons y r => rw [eByte_good (by simp)] at e1; simp only [Prod.mk.injEq] at e1; obtain ⟨rfl, rfl, rfl⟩ := e1; exact .inr ⟨rfl, rfl⟩⟩
  clear HEB
  by_cases x2 : x = 2
  · subst x2
    have HQ2 : Aside0 (q = 2 :: l1 ∧ b1 = false) := ⟨by rcases HQ.out with h | h; exact absurd h.2.1 (by decide); exact h⟩
    obtain rfl := HQ2.out.2
    obtain ⟨⟨t, l2, b2⟩, e2⟩ : ∃ y, eFix 4 l1 false = y := ⟨_, rfl⟩
    obtain ⟨⟨m, l3, b3⟩, e3⟩ : ∃ y, eFix 4 l2 b2 = y := ⟨_, rfl⟩
    have hBl2 : Bytes l2 := by have := eFix_b (bad := false) 4 HBL1.out; rw [e2] at this; exact this
    have KK2 := Aside0.mk (fun (X : World) (hx : Ey X ge BB l1 false) => eword_any ge BB l1 false X hx HBL1.out)
    have KK3 := Aside0.mk (fun (X : World) (hx : Ey X ge BB l2 b2) => eword_any ge BB l2 b2 X hx hBl2)
    rw [e2] at KK2
    rw [e3] at KK3
    have HT2 : Aside0 ((b3 = true ∨ 0 < l3.length → readR q = badR) ∧ (¬ (b3 = true ∨ 0 < l3.length) → readR q = ⟨true, 2, t, m, 0, 0, [], []⟩) ∧ (0 ≤ t ∧ t < 4294967296) ∧ 0 ≤ m ∧ m < 4294967296) := ⟨by
      rw [HQ2.out.1, readR_two]
      by_cases h4 : 4 ≤ l1.length
      · rw [eFix_good h4] at e2
        simp only [Prod.mk.injEq] at e2
        obtain ⟨rfl, rfl, rfl⟩ := e2
        have ht := leN4 HBL1.out
        by_cases h8 : 8 ≤ l1.length
        · rw [eFix_good (by rw [List.length_drop]; omega)] at e3
          simp only [Prod.mk.injEq] at e3
          obtain ⟨rfl, rfl, rfl⟩ := e3
          have hm := leN4 (HBL1.out.drop 4)
          rw [List.drop_drop, List.length_drop]
          unfold U32 at ht hm
          refine ⟨fun h => ?_, fun h => ?_, ht, hm⟩
          · rw [if_neg (by rcases h with h | h; cases h; omega)]
          · rw [if_pos (by have := fun q => h (.inr q); omega)]
        · rw [eFix_short (by rw [List.length_drop]; omega)] at e3
          simp only [Prod.mk.injEq] at e3
          obtain ⟨rfl, rfl, rfl⟩ := e3
          unfold U32 at ht
          exact ⟨fun h => by rw [if_neg (by omega)], fun h => absurd (.inl rfl) h, ht, by omega, by omega⟩
      · rw [eFix_short (by omega)] at e2
        simp only [Prod.mk.injEq] at e2
        obtain ⟨rfl, rfl, rfl⟩ := e2
        rw [eFix_bad] at e3
        simp only [Prod.mk.injEq] at e3
        obtain ⟨rfl, rfl, rfl⟩ := e3
        exact ⟨fun h => by rw [if_neg (by omega)], fun h => absurd (.inl rfl) h, by omega, by omega, by omega⟩⟩
    clear e2 e3 hBl2
    go_wp2_with fail
    generalize w2.alloc (.cells #[.int .u8 2, .int .u32 0, .int .u32 0, .int .u32 0, .int .u32 0, .slice none 0 0, .slice none 0 0] 28) = W3 at *
    clear hg5
    refine (KK2.out _ HE3.out).mono ?_
    rintro e w4 ⟨rfl, he4⟩
    have H4 := Aside0.mk (H3.out.eyeL he4 (Nat.le_of_lt HGE.out.1) (fun p hp => by
      simp only [List.mem_cons, List.not_mem_nil, or_false] at hp
      rcases hp with rfl | rfl
      · exact Nat.ne_of_gt HG5.out.1
      · exact Nat.ne_of_lt HGE.out.1))
    have HE4 := Aside0.mk he4.1
    clear he4 H3 HE3 KK2
    go_wp2_with fail
    refine (KK3.out _ HE4.out).mono ?_
    rintro e w5 ⟨rfl, he5⟩
    have H5 := Aside0.mk (H4.out.eyeL he5 (Nat.le_of_lt HGE.out.1) (fun p hp => by
      simp only [List.mem_cons, List.not_mem_nil, or_false] at hp
      rcases hp with rfl | rfl
      · exact Nat.ne_of_gt HG5.out.1
      · exact Nat.ne_of_lt HGE.out.1))
    have HE5 := Aside0.mk he5.1
    have HS5 : Aside0 (BB ≤ w5.heap.size) := ⟨Nat.le_trans HG5.out.2.2 (Nat.le_of_lt (H5.out.lt (i := 0) rfl))⟩
    clear he5 H4 HE4 KK3
    have c1 := blk_cell (H5.out.get (i := 0) rfl) 1
    have c2 := blk_cell (H5.out.get (i := 0) rfl) 2
    have f1 := blk_frozen (H5.out.get (i := 0) rfl) 1
    have f2 := blk_frozen (H5.out.get (i := 0) rfl) 2
    go_wp2_with fail
    clear c1 c2 f1 f2
    have H6 := Aside0.mk ((H5.out.setCell (i := 0) rfl 1 (.int .u32 t)).setCell (i := 0) rfl 2 (.int .u32 m))
    have HE6 := Aside0.mk (HE5.out.below (((Below.refl BB w5).setCell (p := ⟨g5, 1, none⟩) HG5.out.2.2 (.int .u32 t)).setCell (p := ⟨g5, 2, none⟩) HG5.out.2.2 (.int .u32 m)) HS5.out)
    clear H5 HE5 HS5
    generalize (w5.setCell ⟨g5, 1, none⟩ (.int .u32 t)).setCell ⟨g5, 2, none⟩ (.int .u32 m) = W6 at *
    have H7 : Aside0 (Hp B w00 W6 [(g5, .cells #[.int .u8 2, .int .u32 t, .int .u32 m, .int .u32 0, .int .u32 0, .slice none 0 0, .slice none 0 0] 28 (0, 0)), (B, .cells #[.int .u8 0, .int .u32 0, .int .u32 0, .int .u32 0, .int .u32 0, .slice none 0 0, .slice none 0 0] 28 (0, 0))] []) := ⟨H6.out⟩
    clear H6
    refine (done_any ge BB l3 b3 W6 HE6.out).mono ?_
    rintro e w7 ⟨rfl, rfl⟩
    by_cases hd : b3 = true ∨ 0 < l3.length
    · rw [if_pos hd]
      have HDD := Aside0.mk (HT2.out.1 hd)
      clear hd
      go_wp2_with (first | (refine wpList_store_row rfl 28 (.tmp 2) (.tmp 49) rfl B #[.int .u8 0, .int .u32 0, .int .u32 0, .int .u32 0, .int .u32 0, .slice none 0 0, .slice none 0 0] rfl rfl 28 _ (H7.out.get (i := 1) rfl) (msg_info _ _ _ _ _ _ _) rfl (by simp [Value.oneCell']) ?_))
      have H9 := Aside0.mk (H7.out.setRow (i := 1) rfl #[.int .u8 0, .int .u32 0, .int .u32 0, .int .u32 0, .int .u32 0, .slice none 0 0, .slice none 0 0])
      have HRQ : Aside0 (readR q = badR) := ⟨HDD.out⟩
      refine bodyPost_ret (results_ct rfl _ _ B _ #[.int .u8 0, .int .u32 0, .int .u32 0, .int .u32 0, .int .u32 0, .slice none 0 0, .slice none 0 0] (0, 0) _ rfl (H9.out.get (i := 1) rfl) Try.underlying28 rfl (msg_info _ _ _ _ _ _ _)) rfl ?_
      exact ⟨ReadM.of HRQ.out (MsC_zero _ 0 0 0), H9.out.bel⟩
    · rw [if_neg hd]
      have HDD := Aside0.mk (HT2.out.2.1 hd)
      clear hd
      go_wp2_with (first | (refine wpList_load_row_g 28 (.tmp 5) rfl g5 rfl rfl 28 _ (0, 0) _ (H7.out.get (i := 0) rfl) Try.underlying28 rfl (msg_info _ _ _ _ _ _ _) ?_))
      refine (mright_any 2 t m 0 0 [] [] _ _ (MsC_zero _ _ _ _) (OkM_zero (by omega) HT2.out.2.2.1 HT2.out.2.2.2)).mono ?_
      rintro e w8 ⟨rfl, hb8⟩
      have H8 := Aside0.mk (H7.out.call hb8)
      rw [show rightM 2 t m 0 0 [] [] = true by unfold rightM isZ; simp]
      clear hb8 H7 HE6
      go_wp2_with (first | (refine wpList_load_row_g 28 (.tmp 5) rfl g5 rfl rfl 28 _ (0, 0) _ (H8.out.get (i := 0) rfl) Try.underlying28 rfl (msg_info _ _ _ _ _ _ _) ?_) | (refine wpList_store_row rfl 28 (.tmp 2) (.tmp 50) rfl B #[.int .u8 2, .int .u32 t, .int .u32 m, .int .u32 0, .int .u32 0, .slice none 0 0, .slice none 0 0] rfl rfl 28 _ (H8.out.get (i := 1) rfl) (msg_info _ _ _ _ _ _ _) rfl (by simp [Value.oneCell']) ?_))
      have H9 := Aside0.mk ((H8.out).setRow (i := 1) rfl #[.int .u8 2, .int .u32 t, .int .u32 m, .int .u32 0, .int .u32 0, .slice none 0 0, .slice none 0 0])
      have HRQ : Aside0 (readR q = ⟨true, 2, t, m, 0, 0, [], []⟩) := ⟨HDD.out⟩
      refine bodyPost_ret (results_ct rfl _ _ B _ #[.int .u8 2, .int .u32 t, .int .u32 m, .int .u32 0, .int .u32 0, .slice none 0 0, .slice none 0 0] (0, 0) _ rfl (H9.out.get (i := 1) rfl) Try.underlying28 rfl (msg_info _ _ _ _ _ _ _)) rfl ?_
      exact ⟨ReadM.of HRQ.out (MsC_zero _ _ _ _), H9.out.bel⟩
  · skip
    by_cases x5 : x = 5
    · subst x5
      have HQ2 : Aside0 (q = 5 :: l1 ∧ b1 = false) := ⟨by rcases HQ.out with h | h; exact absurd h.2.1 (by decide); exact h⟩
      have hq1 : n = l1.length + 1 := by have := HN.out.2.2; rw [HQ2.out.1] at this; simpa using this.symm
      obtain ⟨A9, z1, z2, _⟩ := eye_lo (P := Try.prog) .u8 .i64 23 5 1 Try.underlying23 np_info A n c 1 (by omega) HN.out.2.1
      have hn1 : (1 : Int) ≤ n := by omega
      clear hq1
      have Z1 : Aside0 (∀ W : World, (Instr.slice 23 (.slice A n c) (some (.int .i64 1)) none none).run Try.prog W = .ok (.slice A9 (n - 1) (c - 1)) W) := ⟨fun W => z1 W⟩
      have Z2 : Aside0 (∀ z, Below B w00 z → (Kd.int .u8).C z A9 (n - 1) l1) := ⟨fun z hz => by have := z2 z q (HF.out z hz); rw [HQ2.out.1] at this; exact this⟩
      clear z1 z2
      have z1 := Z1.out
      go_wp2_with fail
      generalize w2.alloc (.cells #[.int .u8 5, .int .u32 0, .int .u32 0, .int .u32 0, .int .u32 0, .slice none 0 0, .slice none 0 0] 28) = W3 at *
      clear z1 Z1 hg5
      refine (parse_any A9 (n - 1) (c - 1) l1 W3 (Z2.out _ H3.out.bel) (by have := HN.out.1; omega) HBL1.out).mono ?_
      rintro e w4 ⟨hp4, hb4⟩
      obtain ⟨A5, n5, c5, A6, n6, c6, rfl, hD4⟩ := parse_formR hp4
      obtain ⟨g6, hg6⟩ : ∃ g6, w4.heap.size = g6 := ⟨_, rfl⟩
      have H4 := Aside0.mk ((H3.out.ofR hb4 hD4).allocAt (.cells #[.int .u32 (tkQ l1), .int .u32 (hsQ l1), .slice A5 n5 c5, .slice A6 n6 c6] 26) g6 hg6)
      clear hp4 hb4 hD4 H3 HE3
      obtain ⟨β, hβ⟩ : ∃ β, okD l1 = β := ⟨_, rfl⟩
      have HEC : ecD l1 = if β = true then 0 else 2 := by unfold ecD; rw [hβ]
      have HBE := Aside0.mk hβ
      clear hβ
      cases β with
      | false =>
        rw [if_neg (by decide)] at HEC
        rw [HEC]
        clear HEC
        go_wp2_with (first | (refine wpList_store_row rfl 28 (.tmp 2) (.tmp 34) rfl B #[.int .u8 0, .int .u32 0, .int .u32 0, .int .u32 0, .int .u32 0, .slice none 0 0, .slice none 0 0] rfl rfl 28 _ (H4.out.get (i := 2) rfl) (msg_info _ _ _ _ _ _ _) rfl (by simp [Value.oneCell']) ?_))
        have H9 := Aside0.mk (H4.out.setRow (i := 2) rfl #[.int .u8 0, .int .u32 0, .int .u32 0, .int .u32 0, .int .u32 0, .slice none 0 0, .slice none 0 0])
        have HRQ : Aside0 (readR q = badR) := ⟨by rw [HQ2.out.1, readR_five _ (by decide) (by decide), if_neg (by rw [HBE.out]; decide)]⟩
        refine bodyPost_ret (results_ct rfl _ _ B _ #[.int .u8 0, .int .u32 0, .int .u32 0, .int .u32 0, .int .u32 0, .slice none 0 0, .slice none 0 0] (0, 0) _ rfl (H9.out.get (i := 2) rfl) Try.underlying28 rfl (msg_info _ _ _ _ _ _ _)) rfl ?_
        exact ⟨ReadM.of HRQ.out (MsC_zero _ 0 0 0), H9.out.bel⟩
      | true =>
        rw [if_pos rfl] at HEC
        rw [HEC]
        clear HEC
        go_wp2_with fail
        generalize hW5 : w4.alloc (.cells #[.int .u32 (tkQ l1), .int .u32 (hsQ l1), .slice A5 n5 c5, .slice A6 n6 c6] 26) = W5 at *
        clear hW5 hg6
        refine regionS (W := W5)
          [fun _ v => v = .agg #[.int .u32 (tkQ l1), .int .u32 (hsQ l1), .slice A5 n5 c5, .slice A6 n6 c6],
           fun _ v => v = .pointer (some ⟨g6, 0, none⟩),
           fun _ v => v = .int .u32 (tkQ l1),
           fun _ v => v = .pointer (some ⟨g5, 3, none⟩),
           fun _ _ => True,
           fun _ v => v = .pointer (some ⟨g5, 1, none⟩),
           fun _ _ => True]
          [4, 6]
          (fun t => match t with | 0 => fun (rs : List Value) (w : World) => Hp B w00 w [(g6, .cells #[.int .u32 (tkQ l1), .int .u32 (hsQ l1), .slice A5 n5 c5, .slice A6 n6 c6] 26 (0, 0)), (g5, .cells #[.int .u8 5, .int .u32 0, .int .u32 0, .int .u32 0, .int .u32 0, .slice none 0 0, .slice none 0 0] 28 (0, 0)), (B, .cells #[.int .u8 0, .int .u32 0, .int .u32 0, .int .u32 0, .int .u32 0, .slice none 0 0, .slice none 0 0] 28 (0, 0))] [fun X => OfR B X (tkQ l1) (hsQ l1) (plQ l1) (clQ l1) (.agg #[.int .u32 (tkQ l1), .int .u32 (hsQ l1), .slice A5 n5 c5, .slice A6 n6 c6])] | 1 => fun (rs : List Value) (w : World) => Hp B w00 w [(g6, .cells #[.int .u32 (tkQ l1), .int .u32 (hsQ l1), .slice A5 n5 c5, .slice A6 n6 c6] 26 (0, 0)), (g5, .cells #[.int .u8 5, .int .u32 0, .int .u32 0, .int .u32 (tkQ l1), .int .u32 (hsQ l1), .slice A5 n5 c5, .slice A6 n6 c6] 28 (0, 0)), (B, .cells #[.int .u8 0, .int .u32 0, .int .u32 0, .int .u32 0, .int .u32 0, .slice none 0 0, .slice none 0 0] 28 (0, 0))] [fun X => OfR B X (tkQ l1) (hsQ l1) (plQ l1) (clQ l1) (.agg #[.int .u32 (tkQ l1), .int .u32 (hsQ l1), .slice A5 n5 c5, .slice A6 n6 c6])] | 2 => fun (rs : List Value) (w : World) => Hp B w00 w [(g6, .cells #[.int .u32 (tkQ l1), .int .u32 (hsQ l1), .slice A5 n5 c5, .slice A6 n6 c6] 26 (0, 0)), (g5, .cells #[.int .u8 5, .int .u32 (tkQ l1), .int .u32 0, .int .u32 (tkQ l1), .int .u32 (hsQ l1), .slice A5 n5 c5, .slice A6 n6 c6] 28 (0, 0)), (B, .cells #[.int .u8 0, .int .u32 0, .int .u32 0, .int .u32 0, .int .u32 0, .slice none 0 0, .slice none 0 0] 28 (0, 0))] [fun X => OfR B X (tkQ l1) (hsQ l1) (plQ l1) (clQ l1) (.agg #[.int .u32 (tkQ l1), .int .u32 (hsQ l1), .slice A5 n5 c5, .slice A6 n6 c6])] | _ => fun _ _ => False)
          (fun _ _ _ => True) (fun w => ∃ o, Hp B w00 w [(g6, .cells #[.int .u32 (tkQ l1), .int .u32 (hsQ l1), .slice A5 n5 c5, .slice A6 n6 c6] 26 (0, 0)), (g5, o), (B, .cells #[.int .u8 0, .int .u32 0, .int .u32 0, .int .u32 0, .int .u32 0, .slice none 0 0, .slice none 0 0] 28 (0, 0))] [fun X => OfR B X (tkQ l1) (hsQ l1) (plQ l1) (clQ l1) (.agg #[.int .u32 (tkQ l1), .int .u32 (hsQ l1), .slice A5 n5 c5, .slice A6 n6 c6])])
          (fun j =>  none)
          [(0, some 35), (1, some 36), (2, some 37), (3, some 38), (4, none), (5, some 39), (6, none)]
          []
          (by kernel_rfl) (by kernel_rfl) (by kernel_rfl) (by kernel_rfl) (by kernel_rfl) ?z11_1c ?z11_1i ?z11_1b ?z11_1d ?z11_1g ⟨?z11_1t0, ?z11_1t1, ?z11_1t2, ?z11_1t3, ?z11_1t4, ?z11_1t5, ?z11_1t6, trivial⟩ ⟨?z11_1o0, ?z11_1o1, ?z11_1o2, ?z11_1o3, ?z11_1o4, ?z11_1o5, ?z11_1o6, trivial⟩ ?z11_1e
        case z11_1c => exact ⟨_, H4.out.drew⟩
        case z11_1i => exact H4.out.drew
        case z11_1b => intro w w' hb h; obtain ⟨o, h⟩ := h; exact ⟨o, h.call hb⟩
        case z11_1d =>
          intro t rs w w' hb h
          match t, h with
          | 0, h => (replace h : Hp B w00 w [(g6, .cells #[.int .u32 (tkQ l1), .int .u32 (hsQ l1), .slice A5 n5 c5, .slice A6 n6 c6] 26 (0, 0)), (g5, .cells #[.int .u8 5, .int .u32 0, .int .u32 0, .int .u32 0, .int .u32 0, .slice none 0 0, .slice none 0 0] 28 (0, 0)), (B, .cells #[.int .u8 0, .int .u32 0, .int .u32 0, .int .u32 0, .int .u32 0, .slice none 0 0, .slice none 0 0] 28 (0, 0))] [fun X => OfR B X (tkQ l1) (hsQ l1) (plQ l1) (clQ l1) (.agg #[.int .u32 (tkQ l1), .int .u32 (hsQ l1), .slice A5 n5 c5, .slice A6 n6 c6])] := h); show Hp B w00 w' [(g6, .cells #[.int .u32 (tkQ l1), .int .u32 (hsQ l1), .slice A5 n5 c5, .slice A6 n6 c6] 26 (0, 0)), (g5, .cells #[.int .u8 5, .int .u32 0, .int .u32 0, .int .u32 0, .int .u32 0, .slice none 0 0, .slice none 0 0] 28 (0, 0)), (B, .cells #[.int .u8 0, .int .u32 0, .int .u32 0, .int .u32 0, .int .u32 0, .slice none 0 0, .slice none 0 0] 28 (0, 0))] [fun X => OfR B X (tkQ l1) (hsQ l1) (plQ l1) (clQ l1) (.agg #[.int .u32 (tkQ l1), .int .u32 (hsQ l1), .slice A5 n5 c5, .slice A6 n6 c6])]; exact Hp.call h hb
          | 1, h => (replace h : Hp B w00 w [(g6, .cells #[.int .u32 (tkQ l1), .int .u32 (hsQ l1), .slice A5 n5 c5, .slice A6 n6 c6] 26 (0, 0)), (g5, .cells #[.int .u8 5, .int .u32 0, .int .u32 0, .int .u32 (tkQ l1), .int .u32 (hsQ l1), .slice A5 n5 c5, .slice A6 n6 c6] 28 (0, 0)), (B, .cells #[.int .u8 0, .int .u32 0, .int .u32 0, .int .u32 0, .int .u32 0, .slice none 0 0, .slice none 0 0] 28 (0, 0))] [fun X => OfR B X (tkQ l1) (hsQ l1) (plQ l1) (clQ l1) (.agg #[.int .u32 (tkQ l1), .int .u32 (hsQ l1), .slice A5 n5 c5, .slice A6 n6 c6])] := h); show Hp B w00 w' [(g6, .cells #[.int .u32 (tkQ l1), .int .u32 (hsQ l1), .slice A5 n5 c5, .slice A6 n6 c6] 26 (0, 0)), (g5, .cells #[.int .u8 5, .int .u32 0, .int .u32 0, .int .u32 (tkQ l1), .int .u32 (hsQ l1), .slice A5 n5 c5, .slice A6 n6 c6] 28 (0, 0)), (B, .cells #[.int .u8 0, .int .u32 0, .int .u32 0, .int .u32 0, .int .u32 0, .slice none 0 0, .slice none 0 0] 28 (0, 0))] [fun X => OfR B X (tkQ l1) (hsQ l1) (plQ l1) (clQ l1) (.agg #[.int .u32 (tkQ l1), .int .u32 (hsQ l1), .slice A5 n5 c5, .slice A6 n6 c6])]; exact Hp.call h hb
          | 2, h => (replace h : Hp B w00 w [(g6, .cells #[.int .u32 (tkQ l1), .int .u32 (hsQ l1), .slice A5 n5 c5, .slice A6 n6 c6] 26 (0, 0)), (g5, .cells #[.int .u8 5, .int .u32 (tkQ l1), .int .u32 0, .int .u32 (tkQ l1), .int .u32 (hsQ l1), .slice A5 n5 c5, .slice A6 n6 c6] 28 (0, 0)), (B, .cells #[.int .u8 0, .int .u32 0, .int .u32 0, .int .u32 0, .int .u32 0, .slice none 0 0, .slice none 0 0] 28 (0, 0))] [fun X => OfR B X (tkQ l1) (hsQ l1) (plQ l1) (clQ l1) (.agg #[.int .u32 (tkQ l1), .int .u32 (hsQ l1), .slice A5 n5 c5, .slice A6 n6 c6])] := h); show Hp B w00 w' [(g6, .cells #[.int .u32 (tkQ l1), .int .u32 (hsQ l1), .slice A5 n5 c5, .slice A6 n6 c6] 26 (0, 0)), (g5, .cells #[.int .u8 5, .int .u32 (tkQ l1), .int .u32 0, .int .u32 (tkQ l1), .int .u32 (hsQ l1), .slice A5 n5 c5, .slice A6 n6 c6] 28 (0, 0)), (B, .cells #[.int .u8 0, .int .u32 0, .int .u32 0, .int .u32 0, .int .u32 0, .slice none 0 0, .slice none 0 0] 28 (0, 0))] [fun X => OfR B X (tkQ l1) (hsQ l1) (plQ l1) (clQ l1) (.agg #[.int .u32 (tkQ l1), .int .u32 (hsQ l1), .slice A5 n5 c5, .slice A6 n6 c6])]; exact Hp.call h hb
          | _ + 3, h => exact h.elim
        case z11_1g =>
          intro j hj; cases hj
        case z11_1t0 => exact StabS.const _ _ _ _
        case z11_1t1 => exact StabS.const _ _ _ _
        case z11_1t2 => exact StabS.const _ _ _ _
        case z11_1t3 => exact StabS.const _ _ _ _
        case z11_1t4 => exact StabS.const _ _ _ _
        case z11_1t5 => exact StabS.const _ _ _ _
        case z11_1t6 => exact StabS.const _ _ _ _
        case z11_1o0 =>
          intro vs w t hC ht1 ht2 hS hV
          rw [if_pos (by kernel_rfl)]
          generalize hρ : rho _ _ _ vs = ρ
          have e6 : ρ (.tmp 6) = .pointer (some ⟨g6, 0, none⟩) := by rw [← hρ]; kernel_rfl
          clear hρ hV
          obtain ⟨o, hH⟩ := hC
          have c0 := blk_cell (hH.get (i := 0) rfl) 0
          have c1 := blk_cell (hH.get (i := 0) rfl) 1
          have c2 := blk_cell (hH.get (i := 0) rfl) 2
          have c3 := blk_cell (hH.get (i := 0) rfl) 3
          refine runs_val (v := .agg #[.int .u32 (tkQ l1), .int .u32 (hsQ l1), .slice A5 n5 c5, .slice A6 n6 c6]) (w' := w) ?_ ⟨Below.refl _ _, rfl⟩
          clear ht1 ht2 hS hH
          go_simp
        case z11_1o1 =>
          intro vs w t hC ht1 ht2 hS hV
          rw [if_pos (by kernel_rfl)]
          generalize hρ : rho _ _ _ vs = ρ
          have e6 : ρ (.tmp 6) = .pointer (some ⟨g6, 0, none⟩) := by rw [← hρ]; kernel_rfl
          clear hρ hV
          refine runs_val (v := .pointer (some ⟨g6, 0, none⟩)) (w' := w) ?_ ⟨Below.refl _ _, rfl⟩
          clear ht1 ht2 hS hC
          go_simp <;> (first | exact IntWalk.u64_in _ (by omega) | exact IntWalk.u32_in _ (by omega) | exact IntWalk.u16_in _ (by omega) | exact IntWalk.u8_in _ (by omega) | exact IntWalk.i64_in _ (by omega) | skip)
        case z11_1o2 =>
          intro vs w t hC ht1 ht2 hS hV
          rw [if_pos (by kernel_rfl)]
          generalize hρ : rho _ _ _ vs = ρ
          have d36 : (vs 1) = .pointer (some ⟨g6, 0, none⟩) := hV 1 (by kernel_rfl)
          have e36 : ρ (.tmp 36) = vs 1 := by rw [← hρ]; kernel_rfl
          rw [d36] at e36; clear d36
          clear hρ hV
          obtain ⟨o, hH⟩ := hC
          have c0 := blk_cell (hH.get (i := 0) rfl) 0
          refine runs_val (v := .int .u32 (tkQ l1)) (w' := w) ?_ ⟨Below.refl _ _, rfl⟩
          clear ht1 ht2 hS hH
          go_simp
        case z11_1o3 =>
          intro vs w t hC ht1 ht2 hS hV
          rw [if_pos (by kernel_rfl)]
          generalize hρ : rho _ _ _ vs = ρ
          have e5 : ρ (.tmp 5) = .pointer (some ⟨g5, 0, none⟩) := by rw [← hρ]; kernel_rfl
          clear hρ hV
          refine runs_val (v := .pointer (some ⟨g5, 3, none⟩)) (w' := w) ?_ ⟨Below.refl _ _, rfl⟩
          clear ht1 ht2 hS hC
          go_simp <;> (first | exact IntWalk.u64_in _ (by omega) | exact IntWalk.u32_in _ (by omega) | exact IntWalk.u16_in _ (by omega) | exact IntWalk.u8_in _ (by omega) | exact IntWalk.i64_in _ (by omega) | skip)
        case z11_1o4 =>
          intro vs w hC hS hV
          replace hS : Hp B w00 w [(g6, .cells #[.int .u32 (tkQ l1), .int .u32 (hsQ l1), .slice A5 n5 c5, .slice A6 n6 c6] 26 (0, 0)), (g5, .cells #[.int .u8 5, .int .u32 0, .int .u32 0, .int .u32 0, .int .u32 0, .slice none 0 0, .slice none 0 0] 28 (0, 0)), (B, .cells #[.int .u8 0, .int .u32 0, .int .u32 0, .int .u32 0, .int .u32 0, .slice none 0 0, .slice none 0 0] 28 (0, 0))] [fun X => OfR B X (tkQ l1) (hsQ l1) (plQ l1) (clQ l1) (.agg #[.int .u32 (tkQ l1), .int .u32 (hsQ l1), .slice A5 n5 c5, .slice A6 n6 c6])] := hS
          rw [if_pos (by kernel_rfl)]
          generalize hρ : rho _ _ _ vs = ρ
          have d38 : (vs 3) = .pointer (some ⟨g5, 3, none⟩) := hV 3 (by kernel_rfl)
          have e38 : ρ (.tmp 38) = vs 3 := by rw [← hρ]; kernel_rfl
          rw [d38] at e38; clear d38
          have d35 : (vs 0) = .agg #[.int .u32 (tkQ l1), .int .u32 (hsQ l1), .slice A5 n5 c5, .slice A6 n6 c6] := hV 0 (by kernel_rfl)
          have e35 : ρ (.tmp 35) = vs 0 := by rw [← hρ]; kernel_rfl
          rw [d35] at e35; clear d35
          clear hρ hV
          have c3 := blk_cell (hS.get (i := 1) rfl) 3
          have c4 := blk_cell (hS.get (i := 1) rfl) 4
          have c5' := blk_cell (hS.get (i := 1) rfl) 5
          have c6' := blk_cell (hS.get (i := 1) rfl) 6
          have f3 := blk_frozen (hS.get (i := 1) rfl) 3
          have f4 := blk_frozen (hS.get (i := 1) rfl) 4
          have f5 := blk_frozen (hS.get (i := 1) rfl) 5
          have f6 := blk_frozen (hS.get (i := 1) rfl) 6
          have hH := (((hS.setCell (i := 1) rfl 3 (.int .u32 (tkQ l1))).setCell (i := 1) rfl 4 (.int .u32 (hsQ l1))).setCell (i := 1) rfl 5 (.slice A5 n5 c5)).setCell (i := 1) rfl 6 (.slice A6 n6 c6)
          refine runs_skip (w' := (((w.setCell ⟨g5, 3, none⟩ (.int .u32 (tkQ l1))).setCell ⟨g5, 4, none⟩ (.int .u32 (hsQ l1))).setCell ⟨g5, 5, none⟩ (.slice A5 n5 c5)).setCell ⟨g5, 6, none⟩ (.slice A6 n6 c6)) ?_ ⟨⟨_, hH⟩, trivial, trivial, hH⟩
          clear hS hC hH
          go_simp
        case z11_1o5 =>
          intro vs w t hC ht1 ht2 hS hV
          rw [if_pos (by kernel_rfl)]
          generalize hρ : rho _ _ _ vs = ρ
          have e5 : ρ (.tmp 5) = .pointer (some ⟨g5, 0, none⟩) := by rw [← hρ]; kernel_rfl
          clear hρ hV
          refine runs_val (v := .pointer (some ⟨g5, 1, none⟩)) (w' := w) ?_ ⟨Below.refl _ _, rfl⟩
          clear ht1 ht2 hS hC
          go_simp <;> (first | exact IntWalk.u64_in _ (by omega) | exact IntWalk.u32_in _ (by omega) | exact IntWalk.u16_in _ (by omega) | exact IntWalk.u8_in _ (by omega) | exact IntWalk.i64_in _ (by omega) | skip)
        case z11_1o6 =>
          intro vs w hC hS hV
          replace hS : Hp B w00 w [(g6, .cells #[.int .u32 (tkQ l1), .int .u32 (hsQ l1), .slice A5 n5 c5, .slice A6 n6 c6] 26 (0, 0)), (g5, .cells #[.int .u8 5, .int .u32 0, .int .u32 0, .int .u32 (tkQ l1), .int .u32 (hsQ l1), .slice A5 n5 c5, .slice A6 n6 c6] 28 (0, 0)), (B, .cells #[.int .u8 0, .int .u32 0, .int .u32 0, .int .u32 0, .int .u32 0, .slice none 0 0, .slice none 0 0] 28 (0, 0))] [fun X => OfR B X (tkQ l1) (hsQ l1) (plQ l1) (clQ l1) (.agg #[.int .u32 (tkQ l1), .int .u32 (hsQ l1), .slice A5 n5 c5, .slice A6 n6 c6])] := hS
          rw [if_pos (by kernel_rfl)]
          generalize hρ : rho _ _ _ vs = ρ
          have d39 : (vs 5) = .pointer (some ⟨g5, 1, none⟩) := hV 5 (by kernel_rfl)
          have e39 : ρ (.tmp 39) = vs 5 := by rw [← hρ]; kernel_rfl
          rw [d39] at e39; clear d39
          have d37 : (vs 2) = .int .u32 (tkQ l1) := hV 2 (by kernel_rfl)
          have e37 : ρ (.tmp 37) = vs 2 := by rw [← hρ]; kernel_rfl
          rw [d37] at e37; clear d37
          clear hρ hV
          have c1 := blk_cell (hS.get (i := 1) rfl) 1
          have f1 := blk_frozen (hS.get (i := 1) rfl) 1
          have hH := hS.setCell (i := 1) rfl 1 (.int .u32 (tkQ l1))
          refine runs_skip (w' := w.setCell ⟨g5, 1, none⟩ (.int .u32 (tkQ l1))) ?_ ⟨⟨_, hH⟩, trivial, trivial, hH⟩
          clear hS hC hH
          go_simp
        case z11_1e =>
          intro vs W7 hC hS hV
          replace hS : (fun (w : World) => Hp B w00 w [(g6, .cells #[.int .u32 (tkQ l1), .int .u32 (hsQ l1), .slice A5 n5 c5, .slice A6 n6 c6] 26 (0, 0)), (g5, .cells #[.int .u8 5, .int .u32 (tkQ l1), .int .u32 0, .int .u32 (tkQ l1), .int .u32 (hsQ l1), .slice A5 n5 c5, .slice A6 n6 c6] 28 (0, 0)), (B, .cells #[.int .u8 0, .int .u32 0, .int .u32 0, .int .u32 0, .int .u32 0, .slice none 0 0, .slice none 0 0] 28 (0, 0))] [fun X => OfR B X (tkQ l1) (hsQ l1) (plQ l1) (clQ l1) (.agg #[.int .u32 (tkQ l1), .int .u32 (hsQ l1), .slice A5 n5 c5, .slice A6 n6 c6])]) W7 := hS
          have d35 : (vs 0) = .agg #[.int .u32 (tkQ l1), .int .u32 (hsQ l1), .slice A5 n5 c5, .slice A6 n6 c6] := hV 0 (Nat.le_of_ble_eq_true rfl)
          have d36 : (vs 1) = .pointer (some ⟨g6, 0, none⟩) := hV 1 (Nat.le_of_ble_eq_true rfl)
          have d37 : (vs 2) = .int .u32 (tkQ l1) := hV 2 (Nat.le_of_ble_eq_true rfl)
          have d38 : (vs 3) = .pointer (some ⟨g5, 3, none⟩) := hV 3 (Nat.le_of_ble_eq_true rfl)
          have d39 : (vs 5) = .pointer (some ⟨g5, 1, none⟩) := hV 5 (Nat.le_of_ble_eq_true rfl)
          clear hV
          simp only [putAll]
          rw [d35, d36, d37, d38, d39]
          clear d35 d36 d37 d38 d39
          generalize vs 4 = vN4
          generalize vs 6 = vN6
          clear vs
          simp only [Act.put, List.setIfInBounds_toArray, List.set_cons_zero, List.set_cons_succ]
          have H7 := Aside0.mk hS
          clear hS hC
          go_wp2_with (first | (refine wpList_load_row_g 28 (.tmp 5) rfl g5 rfl rfl 28 _ (0, 0) _ (H7.out.get (i := 1) rfl) Try.underlying28 rfl (msg_info _ _ _ _ _ _ _) ?_) | (refine wpList_store_row rfl 28 (.tmp 2) (.tmp 40) rfl B #[.int .u8 5, .int .u32 (tkQ l1), .int .u32 0, .int .u32 (tkQ l1), .int .u32 (hsQ l1), .slice A5 n5 c5, .slice A6 n6 c6] rfl rfl 28 _ (H7.out.get (i := 2) rfl) (msg_info _ _ _ _ _ _ _) rfl (by simp [Value.oneCell']) ?_))
          have H9 := Aside0.mk (H7.out.setRow (i := 2) rfl #[.int .u8 5, .int .u32 (tkQ l1), .int .u32 0, .int .u32 (tkQ l1), .int .u32 (hsQ l1), .slice A5 n5 c5, .slice A6 n6 c6])
          have HRQ : Aside0 (readR q = ⟨true, 5, tkQ l1, 0, tkQ l1, hsQ l1, plQ l1, clQ l1⟩) := ⟨by rw [HQ2.out.1, readR_five _ (by decide) (by decide), if_pos HBE.out]⟩
          refine bodyPost_ret (results_ct rfl _ _ B _ #[.int .u8 5, .int .u32 (tkQ l1), .int .u32 0, .int .u32 (tkQ l1), .int .u32 (hsQ l1), .slice A5 n5 c5, .slice A6 n6 c6] (0, 0) _ rfl (H9.out.get (i := 2) rfl) Try.underlying28 rfl (msg_info _ _ _ _ _ _ _)) rfl ?_
          exact ⟨ReadM.of HRQ.out (OfR.msg (H9.out.fact (i := 0) rfl)), H9.out.bel⟩
    · skip
      by_cases x6 : x = 6
      · subst x6
        have HQ2 : Aside0 (q = 6 :: l1 ∧ b1 = false) := ⟨by rcases HQ.out with h | h; exact absurd h.2.1 (by decide); exact h⟩
        have hq1 : n = l1.length + 1 := by have := HN.out.2.2; rw [HQ2.out.1] at this; simpa using this.symm
        obtain ⟨A9, z1, z2, _⟩ := eye_lo (P := Try.prog) .u8 .i64 23 5 1 Try.underlying23 np_info A n c 1 (by omega) HN.out.2.1
        have hn1 : (1 : Int) ≤ n := by omega
        clear hq1
        have Z1 : Aside0 (∀ W : World, (Instr.slice 23 (.slice A n c) (some (.int .i64 1)) none none).run Try.prog W = .ok (.slice A9 (n - 1) (c - 1)) W) := ⟨fun W => z1 W⟩
        have Z2 : Aside0 (∀ z, Below B w00 z → (Kd.int .u8).C z A9 (n - 1) l1) := ⟨fun z hz => by have := z2 z q (HF.out z hz); rw [HQ2.out.1] at this; exact this⟩
        clear z1 z2
        have z1 := Z1.out
        go_wp2_with fail
        generalize w2.alloc (.cells #[.int .u8 6, .int .u32 0, .int .u32 0, .int .u32 0, .int .u32 0, .slice none 0 0, .slice none 0 0] 28) = W3 at *
        clear z1 Z1 hg5
        refine (parse_any A9 (n - 1) (c - 1) l1 W3 (Z2.out _ H3.out.bel) (by have := HN.out.1; omega) HBL1.out).mono ?_
        rintro e w4 ⟨hp4, hb4⟩
        obtain ⟨A5, n5, c5, A6, n6, c6, rfl, hD4⟩ := parse_formR hp4
        obtain ⟨g6, hg6⟩ : ∃ g6, w4.heap.size = g6 := ⟨_, rfl⟩
        have H4 := Aside0.mk ((H3.out.ofR hb4 hD4).allocAt (.cells #[.int .u32 (tkQ l1), .int .u32 (hsQ l1), .slice A5 n5 c5, .slice A6 n6 c6] 26) g6 hg6)
        clear hp4 hb4 hD4 H3 HE3
        obtain ⟨β, hβ⟩ : ∃ β, okD l1 = β := ⟨_, rfl⟩
        have HEC : ecD l1 = if β = true then 0 else 2 := by unfold ecD; rw [hβ]
        have HBE := Aside0.mk hβ
        clear hβ
        cases β with
        | false =>
          rw [if_neg (by decide)] at HEC
          rw [HEC]
          clear HEC
          go_wp2_with (first | (refine wpList_store_row rfl 28 (.tmp 2) (.tmp 34) rfl B #[.int .u8 0, .int .u32 0, .int .u32 0, .int .u32 0, .int .u32 0, .slice none 0 0, .slice none 0 0] rfl rfl 28 _ (H4.out.get (i := 2) rfl) (msg_info _ _ _ _ _ _ _) rfl (by simp [Value.oneCell']) ?_))
          have H9 := Aside0.mk (H4.out.setRow (i := 2) rfl #[.int .u8 0, .int .u32 0, .int .u32 0, .int .u32 0, .int .u32 0, .slice none 0 0, .slice none 0 0])
          have HRQ : Aside0 (readR q = badR) := ⟨by rw [HQ2.out.1, readR_five _ (by decide) (by decide), if_neg (by rw [HBE.out]; decide)]⟩
          refine bodyPost_ret (results_ct rfl _ _ B _ #[.int .u8 0, .int .u32 0, .int .u32 0, .int .u32 0, .int .u32 0, .slice none 0 0, .slice none 0 0] (0, 0) _ rfl (H9.out.get (i := 2) rfl) Try.underlying28 rfl (msg_info _ _ _ _ _ _ _)) rfl ?_
          exact ⟨ReadM.of HRQ.out (MsC_zero _ 0 0 0), H9.out.bel⟩
        | true =>
          rw [if_pos rfl] at HEC
          rw [HEC]
          clear HEC
          go_wp2_with fail
          generalize hW5 : w4.alloc (.cells #[.int .u32 (tkQ l1), .int .u32 (hsQ l1), .slice A5 n5 c5, .slice A6 n6 c6] 26) = W5 at *
          clear hW5 hg6
          refine regionS (W := W5)
            [fun _ v => v = .agg #[.int .u32 (tkQ l1), .int .u32 (hsQ l1), .slice A5 n5 c5, .slice A6 n6 c6],
             fun _ v => v = .pointer (some ⟨g6, 0, none⟩),
             fun _ v => v = .int .u32 (tkQ l1),
             fun _ v => v = .pointer (some ⟨g5, 3, none⟩),
             fun _ _ => True,
             fun _ v => v = .pointer (some ⟨g5, 1, none⟩),
             fun _ _ => True]
            [4, 6]
            (fun t => match t with | 0 => fun (rs : List Value) (w : World) => Hp B w00 w [(g6, .cells #[.int .u32 (tkQ l1), .int .u32 (hsQ l1), .slice A5 n5 c5, .slice A6 n6 c6] 26 (0, 0)), (g5, .cells #[.int .u8 6, .int .u32 0, .int .u32 0, .int .u32 0, .int .u32 0, .slice none 0 0, .slice none 0 0] 28 (0, 0)), (B, .cells #[.int .u8 0, .int .u32 0, .int .u32 0, .int .u32 0, .int .u32 0, .slice none 0 0, .slice none 0 0] 28 (0, 0))] [fun X => OfR B X (tkQ l1) (hsQ l1) (plQ l1) (clQ l1) (.agg #[.int .u32 (tkQ l1), .int .u32 (hsQ l1), .slice A5 n5 c5, .slice A6 n6 c6])] | 1 => fun (rs : List Value) (w : World) => Hp B w00 w [(g6, .cells #[.int .u32 (tkQ l1), .int .u32 (hsQ l1), .slice A5 n5 c5, .slice A6 n6 c6] 26 (0, 0)), (g5, .cells #[.int .u8 6, .int .u32 0, .int .u32 0, .int .u32 (tkQ l1), .int .u32 (hsQ l1), .slice A5 n5 c5, .slice A6 n6 c6] 28 (0, 0)), (B, .cells #[.int .u8 0, .int .u32 0, .int .u32 0, .int .u32 0, .int .u32 0, .slice none 0 0, .slice none 0 0] 28 (0, 0))] [fun X => OfR B X (tkQ l1) (hsQ l1) (plQ l1) (clQ l1) (.agg #[.int .u32 (tkQ l1), .int .u32 (hsQ l1), .slice A5 n5 c5, .slice A6 n6 c6])] | 2 => fun (rs : List Value) (w : World) => Hp B w00 w [(g6, .cells #[.int .u32 (tkQ l1), .int .u32 (hsQ l1), .slice A5 n5 c5, .slice A6 n6 c6] 26 (0, 0)), (g5, .cells #[.int .u8 6, .int .u32 (tkQ l1), .int .u32 0, .int .u32 (tkQ l1), .int .u32 (hsQ l1), .slice A5 n5 c5, .slice A6 n6 c6] 28 (0, 0)), (B, .cells #[.int .u8 0, .int .u32 0, .int .u32 0, .int .u32 0, .int .u32 0, .slice none 0 0, .slice none 0 0] 28 (0, 0))] [fun X => OfR B X (tkQ l1) (hsQ l1) (plQ l1) (clQ l1) (.agg #[.int .u32 (tkQ l1), .int .u32 (hsQ l1), .slice A5 n5 c5, .slice A6 n6 c6])] | _ => fun _ _ => False)
            (fun _ _ _ => True) (fun w => ∃ o, Hp B w00 w [(g6, .cells #[.int .u32 (tkQ l1), .int .u32 (hsQ l1), .slice A5 n5 c5, .slice A6 n6 c6] 26 (0, 0)), (g5, o), (B, .cells #[.int .u8 0, .int .u32 0, .int .u32 0, .int .u32 0, .int .u32 0, .slice none 0 0, .slice none 0 0] 28 (0, 0))] [fun X => OfR B X (tkQ l1) (hsQ l1) (plQ l1) (clQ l1) (.agg #[.int .u32 (tkQ l1), .int .u32 (hsQ l1), .slice A5 n5 c5, .slice A6 n6 c6])])
            (fun j =>  none)
            [(0, some 35), (1, some 36), (2, some 37), (3, some 38), (4, none), (5, some 39), (6, none)]
            []
            (by kernel_rfl) (by kernel_rfl) (by kernel_rfl) (by kernel_rfl) (by kernel_rfl) ?z11_2c ?z11_2i ?z11_2b ?z11_2d ?z11_2g ⟨?z11_2t0, ?z11_2t1, ?z11_2t2, ?z11_2t3, ?z11_2t4, ?z11_2t5, ?z11_2t6, trivial⟩ ⟨?z11_2o0, ?z11_2o1, ?z11_2o2, ?z11_2o3, ?z11_2o4, ?z11_2o5, ?z11_2o6, trivial⟩ ?z11_2e
          case z11_2c => exact ⟨_, H4.out.drew⟩
          case z11_2i => exact H4.out.drew
          case z11_2b => intro w w' hb h; obtain ⟨o, h⟩ := h; exact ⟨o, h.call hb⟩
          case z11_2d =>
            intro t rs w w' hb h
            match t, h with
            | 0, h => (replace h : Hp B w00 w [(g6, .cells #[.int .u32 (tkQ l1), .int .u32 (hsQ l1), .slice A5 n5 c5, .slice A6 n6 c6] 26 (0, 0)), (g5, .cells #[.int .u8 6, .int .u32 0, .int .u32 0, .int .u32 0, .int .u32 0, .slice none 0 0, .slice none 0 0] 28 (0, 0)), (B, .cells #[.int .u8 0, .int .u32 0, .int .u32 0, .int .u32 0, .int .u32 0, .slice none 0 0, .slice none 0 0] 28 (0, 0))] [fun X => OfR B X (tkQ l1) (hsQ l1) (plQ l1) (clQ l1) (.agg #[.int .u32 (tkQ l1), .int .u32 (hsQ l1), .slice A5 n5 c5, .slice A6 n6 c6])] := h); show Hp B w00 w' [(g6, .cells #[.int .u32 (tkQ l1), .int .u32 (hsQ l1), .slice A5 n5 c5, .slice A6 n6 c6] 26 (0, 0)), (g5, .cells #[.int .u8 6, .int .u32 0, .int .u32 0, .int .u32 0, .int .u32 0, .slice none 0 0, .slice none 0 0] 28 (0, 0)), (B, .cells #[.int .u8 0, .int .u32 0, .int .u32 0, .int .u32 0, .int .u32 0, .slice none 0 0, .slice none 0 0] 28 (0, 0))] [fun X => OfR B X (tkQ l1) (hsQ l1) (plQ l1) (clQ l1) (.agg #[.int .u32 (tkQ l1), .int .u32 (hsQ l1), .slice A5 n5 c5, .slice A6 n6 c6])]; exact Hp.call h hb
            | 1, h => (replace h : Hp B w00 w [(g6, .cells #[.int .u32 (tkQ l1), .int .u32 (hsQ l1), .slice A5 n5 c5, .slice A6 n6 c6] 26 (0, 0)), (g5, .cells #[.int .u8 6, .int .u32 0, .int .u32 0, .int .u32 (tkQ l1), .int .u32 (hsQ l1), .slice A5 n5 c5, .slice A6 n6 c6] 28 (0, 0)), (B, .cells #[.int .u8 0, .int .u32 0, .int .u32 0, .int .u32 0, .int .u32 0, .slice none 0 0, .slice none 0 0] 28 (0, 0))] [fun X => OfR B X (tkQ l1) (hsQ l1) (plQ l1) (clQ l1) (.agg #[.int .u32 (tkQ l1), .int .u32 (hsQ l1), .slice A5 n5 c5, .slice A6 n6 c6])] := h); show Hp B w00 w' [(g6, .cells #[.int .u32 (tkQ l1), .int .u32 (hsQ l1), .slice A5 n5 c5, .slice A6 n6 c6] 26 (0, 0)), (g5, .cells #[.int .u8 6, .int .u32 0, .int .u32 0, .int .u32 (tkQ l1), .int .u32 (hsQ l1), .slice A5 n5 c5, .slice A6 n6 c6] 28 (0, 0)), (B, .cells #[.int .u8 0, .int .u32 0, .int .u32 0, .int .u32 0, .int .u32 0, .slice none 0 0, .slice none 0 0] 28 (0, 0))] [fun X => OfR B X (tkQ l1) (hsQ l1) (plQ l1) (clQ l1) (.agg #[.int .u32 (tkQ l1), .int .u32 (hsQ l1), .slice A5 n5 c5, .slice A6 n6 c6])]; exact Hp.call h hb
            | 2, h => (replace h : Hp B w00 w [(g6, .cells #[.int .u32 (tkQ l1), .int .u32 (hsQ l1), .slice A5 n5 c5, .slice A6 n6 c6] 26 (0, 0)), (g5, .cells #[.int .u8 6, .int .u32 (tkQ l1), .int .u32 0, .int .u32 (tkQ l1), .int .u32 (hsQ l1), .slice A5 n5 c5, .slice A6 n6 c6] 28 (0, 0)), (B, .cells #[.int .u8 0, .int .u32 0, .int .u32 0, .int .u32 0, .int .u32 0, .slice none 0 0, .slice none 0 0] 28 (0, 0))] [fun X => OfR B X (tkQ l1) (hsQ l1) (plQ l1) (clQ l1) (.agg #[.int .u32 (tkQ l1), .int .u32 (hsQ l1), .slice A5 n5 c5, .slice A6 n6 c6])] := h); show Hp B w00 w' [(g6, .cells #[.int .u32 (tkQ l1), .int .u32 (hsQ l1), .slice A5 n5 c5, .slice A6 n6 c6] 26 (0, 0)), (g5, .cells #[.int .u8 6, .int .u32 (tkQ l1), .int .u32 0, .int .u32 (tkQ l1), .int .u32 (hsQ l1), .slice A5 n5 c5, .slice A6 n6 c6] 28 (0, 0)), (B, .cells #[.int .u8 0, .int .u32 0, .int .u32 0, .int .u32 0, .int .u32 0, .slice none 0 0, .slice none 0 0] 28 (0, 0))] [fun X => OfR B X (tkQ l1) (hsQ l1) (plQ l1) (clQ l1) (.agg #[.int .u32 (tkQ l1), .int .u32 (hsQ l1), .slice A5 n5 c5, .slice A6 n6 c6])]; exact Hp.call h hb
            | _ + 3, h => exact h.elim
          case z11_2g =>
            intro j hj; cases hj
          case z11_2t0 => exact StabS.const _ _ _ _
          case z11_2t1 => exact StabS.const _ _ _ _
          case z11_2t2 => exact StabS.const _ _ _ _
          case z11_2t3 => exact StabS.const _ _ _ _
          case z11_2t4 => exact StabS.const _ _ _ _
          case z11_2t5 => exact StabS.const _ _ _ _
          case z11_2t6 => exact StabS.const _ _ _ _
          case z11_2o0 =>
            intro vs w t hC ht1 ht2 hS hV
            rw [if_pos (by kernel_rfl)]
            generalize hρ : rho _ _ _ vs = ρ
            have e6 : ρ (.tmp 6) = .pointer (some ⟨g6, 0, none⟩) := by rw [← hρ]; kernel_rfl
            clear hρ hV
            obtain ⟨o, hH⟩ := hC
            have c0 := blk_cell (hH.get (i := 0) rfl) 0
            have c1 := blk_cell (hH.get (i := 0) rfl) 1
            have c2 := blk_cell (hH.get (i := 0) rfl) 2
            have c3 := blk_cell (hH.get (i := 0) rfl) 3
            refine runs_val (v := .agg #[.int .u32 (tkQ l1), .int .u32 (hsQ l1), .slice A5 n5 c5, .slice A6 n6 c6]) (w' := w) ?_ ⟨Below.refl _ _, rfl⟩
            clear ht1 ht2 hS hH
            go_simp
          case z11_2o1 =>
            intro vs w t hC ht1 ht2 hS hV
            rw [if_pos (by kernel_rfl)]
            generalize hρ : rho _ _ _ vs = ρ
            have e6 : ρ (.tmp 6) = .pointer (some ⟨g6, 0, none⟩) := by rw [← hρ]; kernel_rfl
            clear hρ hV
            refine runs_val (v := .pointer (some ⟨g6, 0, none⟩)) (w' := w) ?_ ⟨Below.refl _ _, rfl⟩
            clear ht1 ht2 hS hC
            go_simp <;> (first | exact IntWalk.u64_in _ (by omega) | exact IntWalk.u32_in _ (by omega) | exact IntWalk.u16_in _ (by omega) | exact IntWalk.u8_in _ (by omega) | exact IntWalk.i64_in _ (by omega) | skip)
          case z11_2o2 =>
            intro vs w t hC ht1 ht2 hS hV
            rw [if_pos (by kernel_rfl)]
            generalize hρ : rho _ _ _ vs = ρ
            have d36 : (vs 1) = .pointer (some ⟨g6, 0, none⟩) := hV 1 (by kernel_rfl)
            have e36 : ρ (.tmp 36) = vs 1 := by rw [← hρ]; kernel_rfl
            rw [d36] at e36; clear d36
            clear hρ hV
            obtain ⟨o, hH⟩ := hC
            have c0 := blk_cell (hH.get (i := 0) rfl) 0
            refine runs_val (v := .int .u32 (tkQ l1)) (w' := w) ?_ ⟨Below.refl _ _, rfl⟩
            clear ht1 ht2 hS hH
            go_simp
          case z11_2o3 =>
            intro vs w t hC ht1 ht2 hS hV
            rw [if_pos (by kernel_rfl)]
            generalize hρ : rho _ _ _ vs = ρ
            have e5 : ρ (.tmp 5) = .pointer (some ⟨g5, 0, none⟩) := by rw [← hρ]; kernel_rfl
            clear hρ hV
            refine runs_val (v := .pointer (some ⟨g5, 3, none⟩)) (w' := w) ?_ ⟨Below.refl _ _, rfl⟩
            clear ht1 ht2 hS hC
            go_simp <;> (first | exact IntWalk.u64_in _ (by omega) | exact IntWalk.u32_in _ (by omega) | exact IntWalk.u16_in _ (by omega) | exact IntWalk.u8_in _ (by omega) | exact IntWalk.i64_in _ (by omega) | skip)
          case z11_2o4 =>
            intro vs w hC hS hV
            replace hS : Hp B w00 w [(g6, .cells #[.int .u32 (tkQ l1), .int .u32 (hsQ l1), .slice A5 n5 c5, .slice A6 n6 c6] 26 (0, 0)), (g5, .cells #[.int .u8 6, .int .u32 0, .int .u32 0, .int .u32 0, .int .u32 0, .slice none 0 0, .slice none 0 0] 28 (0, 0)), (B, .cells #[.int .u8 0, .int .u32 0, .int .u32 0, .int .u32 0, .int .u32 0, .slice none 0 0, .slice none 0 0] 28 (0, 0))] [fun X => OfR B X (tkQ l1) (hsQ l1) (plQ l1) (clQ l1) (.agg #[.int .u32 (tkQ l1), .int .u32 (hsQ l1), .slice A5 n5 c5, .slice A6 n6 c6])] := hS
            rw [if_pos (by kernel_rfl)]
            generalize hρ : rho _ _ _ vs = ρ
            have d38 : (vs 3) = .pointer (some ⟨g5, 3, none⟩) := hV 3 (by kernel_rfl)
            have e38 : ρ (.tmp 38) = vs 3 := by rw [← hρ]; kernel_rfl
            rw [d38] at e38; clear d38
            have d35 : (vs 0) = .agg #[.int .u32 (tkQ l1), .int .u32 (hsQ l1), .slice A5 n5 c5, .slice A6 n6 c6] := hV 0 (by kernel_rfl)
            have e35 : ρ (.tmp 35) = vs 0 := by rw [← hρ]; kernel_rfl
            rw [d35] at e35; clear d35
            clear hρ hV
            have c3 := blk_cell (hS.get (i := 1) rfl) 3
            have c4 := blk_cell (hS.get (i := 1) rfl) 4
            have c5' := blk_cell (hS.get (i := 1) rfl) 5
            have c6' := blk_cell (hS.get (i := 1) rfl) 6
            have f3 := blk_frozen (hS.get (i := 1) rfl) 3
            have f4 := blk_frozen (hS.get (i := 1) rfl) 4
            have f5 := blk_frozen (hS.get (i := 1) rfl) 5
            have f6 := blk_frozen (hS.get (i := 1) rfl) 6
            have hH := (((hS.setCell (i := 1) rfl 3 (.int .u32 (tkQ l1))).setCell (i := 1) rfl 4 (.int .u32 (hsQ l1))).setCell (i := 1) rfl 5 (.slice A5 n5 c5)).setCell (i := 1) rfl 6 (.slice A6 n6 c6)
            refine runs_skip (w' := (((w.setCell ⟨g5, 3, none⟩ (.int .u32 (tkQ l1))).setCell ⟨g5, 4, none⟩ (.int .u32 (hsQ l1))).setCell ⟨g5, 5, none⟩ (.slice A5 n5 c5)).setCell ⟨g5, 6, none⟩ (.slice A6 n6 c6)) ?_ ⟨⟨_, hH⟩, trivial, trivial, hH⟩
            clear hS hC hH
            go_simp
          case z11_2o5 =>
            intro vs w t hC ht1 ht2 hS hV
            rw [if_pos (by kernel_rfl)]
            generalize hρ : rho _ _ _ vs = ρ
            have e5 : ρ (.tmp 5) = .pointer (some ⟨g5, 0, none⟩) := by rw [← hρ]; kernel_rfl
            clear hρ hV
            refine runs_val (v := .pointer (some ⟨g5, 1, none⟩)) (w' := w) ?_ ⟨Below.refl _ _, rfl⟩
            clear ht1 ht2 hS hC
            go_simp <;> (first | exact IntWalk.u64_in _ (by omega) | exact IntWalk.u32_in _ (by omega) | exact IntWalk.u16_in _ (by omega) | exact IntWalk.u8_in _ (by omega) | exact IntWalk.i64_in _ (by omega) | skip)
          case z11_2o6 =>
            intro vs w hC hS hV
            replace hS : Hp B w00 w [(g6, .cells #[.int .u32 (tkQ l1), .int .u32 (hsQ l1), .slice A5 n5 c5, .slice A6 n6 c6] 26 (0, 0)), (g5, .cells #[.int .u8 6, .int .u32 0, .int .u32 0, .int .u32 (tkQ l1), .int .u32 (hsQ l1), .slice A5 n5 c5, .slice A6 n6 c6] 28 (0, 0)), (B, .cells #[.int .u8 0, .int .u32 0, .int .u32 0, .int .u32 0, .int .u32 0, .slice none 0 0, .slice none 0 0] 28 (0, 0))] [fun X => OfR B X (tkQ l1) (hsQ l1) (plQ l1) (clQ l1) (.agg #[.int .u32 (tkQ l1), .int .u32 (hsQ l1), .slice A5 n5 c5, .slice A6 n6 c6])] := hS
            rw [if_pos (by kernel_rfl)]
            generalize hρ : rho _ _ _ vs = ρ
            have d39 : (vs 5) = .pointer (some ⟨g5, 1, none⟩) := hV 5 (by kernel_rfl)
            have e39 : ρ (.tmp 39) = vs 5 := by rw [← hρ]; kernel_rfl
            rw [d39] at e39; clear d39
            have d37 : (vs 2) = .int .u32 (tkQ l1) := hV 2 (by kernel_rfl)
            have e37 : ρ (.tmp 37) = vs 2 := by rw [← hρ]; kernel_rfl
            rw [d37] at e37; clear d37
            clear hρ hV
            have c1 := blk_cell (hS.get (i := 1) rfl) 1
            have f1 := blk_frozen (hS.get (i := 1) rfl) 1
            have hH := hS.setCell (i := 1) rfl 1 (.int .u32 (tkQ l1))
            refine runs_skip (w' := w.setCell ⟨g5, 1, none⟩ (.int .u32 (tkQ l1))) ?_ ⟨⟨_, hH⟩, trivial, trivial, hH⟩
            clear hS hC hH
            go_simp
          case z11_2e =>
            intro vs W7 hC hS hV
            replace hS : (fun (w : World) => Hp B w00 w [(g6, .cells #[.int .u32 (tkQ l1), .int .u32 (hsQ l1), .slice A5 n5 c5, .slice A6 n6 c6] 26 (0, 0)), (g5, .cells #[.int .u8 6, .int .u32 (tkQ l1), .int .u32 0, .int .u32 (tkQ l1), .int .u32 (hsQ l1), .slice A5 n5 c5, .slice A6 n6 c6] 28 (0, 0)), (B, .cells #[.int .u8 0, .int .u32 0, .int .u32 0, .int .u32 0, .int .u32 0, .slice none 0 0, .slice none 0 0] 28 (0, 0))] [fun X => OfR B X (tkQ l1) (hsQ l1) (plQ l1) (clQ l1) (.agg #[.int .u32 (tkQ l1), .int .u32 (hsQ l1), .slice A5 n5 c5, .slice A6 n6 c6])]) W7 := hS
            have d35 : (vs 0) = .agg #[.int .u32 (tkQ l1), .int .u32 (hsQ l1), .slice A5 n5 c5, .slice A6 n6 c6] := hV 0 (Nat.le_of_ble_eq_true rfl)
            have d36 : (vs 1) = .pointer (some ⟨g6, 0, none⟩) := hV 1 (Nat.le_of_ble_eq_true rfl)
            have d37 : (vs 2) = .int .u32 (tkQ l1) := hV 2 (Nat.le_of_ble_eq_true rfl)
            have d38 : (vs 3) = .pointer (some ⟨g5, 3, none⟩) := hV 3 (Nat.le_of_ble_eq_true rfl)
            have d39 : (vs 5) = .pointer (some ⟨g5, 1, none⟩) := hV 5 (Nat.le_of_ble_eq_true rfl)
            clear hV
            simp only [putAll]
            rw [d35, d36, d37, d38, d39]
            clear d35 d36 d37 d38 d39
            generalize vs 4 = vN4
            generalize vs 6 = vN6
            clear vs
            simp only [Act.put, List.setIfInBounds_toArray, List.set_cons_zero, List.set_cons_succ]
            have H7 := Aside0.mk hS
            clear hS hC
            go_wp2_with (first | (refine wpList_load_row_g 28 (.tmp 5) rfl g5 rfl rfl 28 _ (0, 0) _ (H7.out.get (i := 1) rfl) Try.underlying28 rfl (msg_info _ _ _ _ _ _ _) ?_) | (refine wpList_store_row rfl 28 (.tmp 2) (.tmp 40) rfl B #[.int .u8 6, .int .u32 (tkQ l1), .int .u32 0, .int .u32 (tkQ l1), .int .u32 (hsQ l1), .slice A5 n5 c5, .slice A6 n6 c6] rfl rfl 28 _ (H7.out.get (i := 2) rfl) (msg_info _ _ _ _ _ _ _) rfl (by simp [Value.oneCell']) ?_))
            have H9 := Aside0.mk (H7.out.setRow (i := 2) rfl #[.int .u8 6, .int .u32 (tkQ l1), .int .u32 0, .int .u32 (tkQ l1), .int .u32 (hsQ l1), .slice A5 n5 c5, .slice A6 n6 c6])
            have HRQ : Aside0 (readR q = ⟨true, 6, tkQ l1, 0, tkQ l1, hsQ l1, plQ l1, clQ l1⟩) := ⟨by rw [HQ2.out.1, readR_five _ (by decide) (by decide), if_pos HBE.out]⟩
            refine bodyPost_ret (results_ct rfl _ _ B _ #[.int .u8 6, .int .u32 (tkQ l1), .int .u32 0, .int .u32 (tkQ l1), .int .u32 (hsQ l1), .slice A5 n5 c5, .slice A6 n6 c6] (0, 0) _ rfl (H9.out.get (i := 2) rfl) Try.underlying28 rfl (msg_info _ _ _ _ _ _ _)) rfl ?_
            exact ⟨ReadM.of HRQ.out (OfR.msg (H9.out.fact (i := 0) rfl)), H9.out.bel⟩
      · skip
        have HRR : Aside0 (b1 = true ∨ 0 < l1.length → readR q = badR) := ⟨by
          rcases HQ.out with h | h
          · intro _; rw [h.1]; rfl
          · rw [h.1, h.2]
            intro hh
            have h0 : l1.length ≠ 0 := by rcases hh with hh | hh; cases hh; omega
            rw [readR_oth _ x2 (by omega), if_neg h0]; split <;> rfl⟩
        have HRS : Aside0 (¬ (b1 = true ∨ 0 < l1.length) → readR q = if x = 1 ∨ x = 3 ∨ x = 4 then ⟨true, x, 0, 0, 0, 0, [], []⟩ else badR) := ⟨by
          intro hh
          rcases HQ.out with h | h
          · exact absurd (.inl h.2.2.2) hh
          · rw [h.1]
            have h0 : l1.length = 0 := by have := fun e => hh (.inr e); omega
            rw [readR_oth _ x2 (by omega), if_pos h0]⟩
        go_wp2_with fail
        generalize w2.alloc (.cells #[.int .u8 x, .int .u32 0, .int .u32 0, .int .u32 0, .int .u32 0, .slice none 0 0, .slice none 0 0] 28) = W3 at *
        clear hg5
        refine (done_any ge BB l1 b1 W3 HE3.out).mono ?_
        rintro e w7 ⟨rfl, rfl⟩
        by_cases hd : b1 = true ∨ 0 < l1.length
        · rw [if_pos hd]
          have HDD := Aside0.mk (HRR.out hd)
          clear hd
          go_wp2_with (first | (refine wpList_store_row rfl 28 (.tmp 2) (.tmp 49) rfl B #[.int .u8 0, .int .u32 0, .int .u32 0, .int .u32 0, .int .u32 0, .slice none 0 0, .slice none 0 0] rfl rfl 28 _ (H3.out.get (i := 1) rfl) (msg_info _ _ _ _ _ _ _) rfl (by simp [Value.oneCell']) ?_))
          have H9 := Aside0.mk (H3.out.setRow (i := 1) rfl #[.int .u8 0, .int .u32 0, .int .u32 0, .int .u32 0, .int .u32 0, .slice none 0 0, .slice none 0 0])
          have HRQ : Aside0 (readR q = badR) := ⟨HDD.out⟩
          refine bodyPost_ret (results_ct rfl _ _ B _ #[.int .u8 0, .int .u32 0, .int .u32 0, .int .u32 0, .int .u32 0, .slice none 0 0, .slice none 0 0] (0, 0) _ rfl (H9.out.get (i := 1) rfl) Try.underlying28 rfl (msg_info _ _ _ _ _ _ _)) rfl ?_
          exact ⟨ReadM.of HRQ.out (MsC_zero _ 0 0 0), H9.out.bel⟩
        · rw [if_neg hd]
          have HDD := Aside0.mk (HRS.out hd)
          clear hd HRR HRS HQ
          go_wp2_with (first | (refine wpList_load_row_g 28 (.tmp 5) rfl g5 rfl rfl 28 _ (0, 0) _ (H3.out.get (i := 0) rfl) Try.underlying28 rfl (msg_info _ _ _ _ _ _ _) ?_))
          refine (mright_any x 0 0 0 0 [] [] _ _ (MsC_zero _ _ _ _) (OkM_zero HX.out (by omega) (by omega))).mono ?_
          rintro e w8 ⟨rfl, hb8⟩
          have H8 := Aside0.mk (H3.out.call hb8)
          clear hb8 H3 HE3
          by_cases h134 : x = 1 ∨ x = 3 ∨ x = 4
          · have HDE := HDD.out
            rw [if_pos h134] at HDE
            have HD2 := Aside0.mk HDE
            rw [show rightM x 0 0 0 0 [] [] = true by unfold rightM isZ; rw [if_pos h134]; simp]
            clear HDE HDD h134
            go_wp2_with (first | (refine wpList_load_row_g 28 (.tmp 5) rfl g5 rfl rfl 28 _ (0, 0) _ (H8.out.get (i := 0) rfl) Try.underlying28 rfl (msg_info _ _ _ _ _ _ _) ?_) | (refine wpList_store_row rfl 28 (.tmp 2) (.tmp 50) rfl B #[.int .u8 x, .int .u32 0, .int .u32 0, .int .u32 0, .int .u32 0, .slice none 0 0, .slice none 0 0] rfl rfl 28 _ (H8.out.get (i := 1) rfl) (msg_info _ _ _ _ _ _ _) rfl (by simp [Value.oneCell']) ?_))
            have H9 := Aside0.mk ((H8.out).setRow (i := 1) rfl #[.int .u8 x, .int .u32 0, .int .u32 0, .int .u32 0, .int .u32 0, .slice none 0 0, .slice none 0 0])
            have HRQ : Aside0 (readR q = ⟨true, x, 0, 0, 0, 0, [], []⟩) := ⟨HD2.out⟩
            refine bodyPost_ret (results_ct rfl _ _ B _ #[.int .u8 x, .int .u32 0, .int .u32 0, .int .u32 0, .int .u32 0, .slice none 0 0, .slice none 0 0] (0, 0) _ rfl (H9.out.get (i := 1) rfl) Try.underlying28 rfl (msg_info _ _ _ _ _ _ _)) rfl ?_
            exact ⟨ReadM.of HRQ.out (MsC_zero _ _ _ _), H9.out.bel⟩
          · have HDE := HDD.out
            rw [if_neg h134] at HDE
            have HD2 := Aside0.mk HDE
            rw [show rightM x 0 0 0 0 [] [] = false by unfold rightM; rw [if_neg h134, if_neg x2, if_neg (by omega)]]
            clear HDE HDD h134
            go_wp2_with (first | (refine wpList_store_row rfl 28 (.tmp 2) (.tmp 49) rfl B #[.int .u8 0, .int .u32 0, .int .u32 0, .int .u32 0, .int .u32 0, .slice none 0 0, .slice none 0 0] rfl rfl 28 _ (H8.out.get (i := 1) rfl) (msg_info _ _ _ _ _ _ _) rfl (by simp [Value.oneCell']) ?_))
            have H9 := Aside0.mk (H8.out.setRow (i := 1) rfl #[.int .u8 0, .int .u32 0, .int .u32 0, .int .u32 0, .int .u32 0, .slice none 0 0, .slice none 0 0])
            have HRQ : Aside0 (readR q = badR) := ⟨HD2.out⟩
            refine bodyPost_ret (results_ct rfl _ _ B _ #[.int .u8 0, .int .u32 0, .int .u32 0, .int .u32 0, .int .u32 0, .slice none 0 0, .slice none 0 0] (0, 0) _ rfl (H9.out.get (i := 1) rfl) Try.underlying28 rfl (msg_info _ _ _ _ _ _ _)) rfl ?_
            exact ⟨ReadM.of HRQ.out (MsC_zero _ 0 0 0), H9.out.bel⟩
end Go.Proofs.Yticpjidcgaaldaa

namespace Go.Proofs.Yticpjidcgaaldaa
open Go.RowKit Go.Proofs.YticpjidcgaaldaaW.PrintWords Go.Proofs.YticpjidcgaaldaaW.PrintLast Go.Proofs.YticpjidcgaaldaaW.PrintMore
set_option linter.unusedVariables false
set_option linter.unusedSimpArgs false

def FParseR (p : List Int) (w' : World) (e : Ending) : Prop := ∃ v, e = .returned (.tuple #[v, .int .i64 (parseF p).err]) ∧ FrC w' (parseF p).ep (parseF p).sq (parseF p).nx (parseF p).bt (parseF p).fi (parseF p).la (parseF p).al (parseF p).D v
theorem FParseR.of {p : List Int} {r : FRes} {w' : World} {v : Value} (hp : parseF p = r) (hv : FrC w' r.ep r.sq r.nx r.bt r.fi r.la r.al r.D v) : FParseR p w' (.returned (.tuple #[v, .int .i64 r.err])) := by
  subst hp; exact ⟨v, rfl, hv⟩
theorem FrC_zero (w : World) : FrC w 0 0 0 0 false false false [] (.agg #[.int .u16 0, .int .u16 0, .int .u16 0, .int .u32 0, .bool false, .bool false, .bool false, .slice none 0 0]) := ⟨none, 0, rfl, Nat.le_refl _, Kd.C_nil _ _⟩
theorem zero_frame (w : World) : (zeroValue 72).run Try.prog w = .ok (.agg #[.int .u16 0, .int .u16 0, .int .u16 0, .int .u32 0, .bool false, .bool false, .bool false, .slice none 0 0]) w := by kernel_rfl
theorem and_b1 (f : Int) (h : 0 ≤ f ∧ f < 256) : bits .and .u8 f 1 = f % 2 := by
  obtain ⟨n, rfl⟩ : ∃ n : Nat, f = (n : Int) := ⟨f.toNat, by omega⟩
  have key : ∀ n : Nat, n < 256 → bits .and .u8 (n : Int) 1 = (n : Int) % 2 := by decide +kernel
  exact key n (by omega)
theorem and_b2 (f : Int) (h : 0 ≤ f ∧ f < 256) : bits .and .u8 f 2 = 2 * (f / 2 % 2) := by
  obtain ⟨n, rfl⟩ : ∃ n : Nat, f = (n : Int) := ⟨f.toNat, by omega⟩
  have key : ∀ n : Nat, n < 256 → bits .and .u8 (n : Int) 2 = 2 * ((n : Int) / 2 % 2) := by decide +kernel
  exact key n (by omega)
theorem and_b4 (f : Int) (h : 0 ≤ f ∧ f < 256) : bits .and .u8 f 4 = 4 * (f / 4 % 2) := by
  obtain ⟨n, rfl⟩ : ∃ n : Nat, f = (n : Int) := ⟨f.toNat, by omega⟩
  have key : ∀ n : Nat, n < 256 → bits .and .u8 (n : Int) 4 = 4 * ((n : Int) / 4 % 2) := by decide +kernel
  exact key n (by omega)
theorem and_b (f : Int) (h : 0 ≤ f ∧ f < 256) : (bits .and .u8 f 1 != 0) = b1F f ∧ (bits .and .u8 f 2 != 0) = b2F f ∧ (bits .and .u8 f 4 != 0) = b4F f := by
  rw [and_b1 f h, and_b2 f h, and_b4 f h]
  unfold b1F b2F b4F
  refine ⟨?_, ?_, ?_⟩ <;> (rw [Bool.eq_iff_iff]; rw [bne_iff_ne, decide_eq_true_iff]; omega)

theorem eblob_bytes (most : Nat) (hm : most < 18446744073709551616) (l : List Int) (bad : Bool) (hb : Bytes l) : Bytes (eBlob most l bad).1 := by
  obtain ⟨n, h1, h2, h3, h4⟩ := eNum_facts most hm l bad hb
  unfold eBlob
  generalize eNum most l bad = r at *
  obtain ⟨a, b, d⟩ := r
  simp only at h3 ⊢
  split
  · exact Bytes.nil
  · exact h3.take _
set_option maxRecDepth 100000 in
set_option maxHeartbeats 16000000 in
theorem fparse_any (A : Option Addr) (n c : Nat) (p : List Int) (w00 : World) (hp : (Kd.int .u8).C w00 A n p) (hc : n ≤ c) (hn : n ≤ 100000) (hb : Bytes p) :
    Calls Try.prog 29 #[.slice A n c] w00 fun e w' => FParseR p w' e ∧ Below w00.heap.size w00 w' := by
  have HF : Aside0 (∀ z, Below w00.heap.size w00 z → (Kd.int .u8).C z A n p) := ⟨fun z hz => Kd.C_below hp hz⟩
  obtain ⟨B, hB⟩ : ∃ B, w00.heap.size = B := ⟨_, rfl⟩
  have H0 := Aside0.mk ((Hp.start w00).allocAt (.cells #[.int .u16 0, .int .u16 0, .int .u16 0, .int .u32 0, .bool false, .bool false, .bool false, .slice none 0 0] 72) B hB)
  rw [hB] at H0 HF
  rw [hB]
  have HN := Aside0.mk (And.intro hn (And.intro hc hp.1))
  have HBP := Aside0.mk hb
  have hz8 := zero_frame
  clear hp hn hb hc
  go_enter Try.func29, Try.ntmps29
  go_wp2_with fail
  clear hB
  refine (make_any _).mono ?_
  rintro e w1 ⟨tb, rfl, hT, hb1⟩
  have H1 := Aside0.mk (H0.out.call hb1)
  have HT := Aside0.mk hT
  clear hb1 H0 hT
  go_wp2_with fail
  by_cases h4 : n < 4
  · have HPQ : Aside0 (parseF p = badF 2) := ⟨by unfold parseF; rw [if_pos (by have := HN.out.2.2; omega)]⟩
    clear HT
    refine (open_short tb A n c _ h4).mono ?_
    rintro e w2 ⟨rfl, hb2⟩
    have H2 := Aside0.mk (H1.out.call hb2)
    clear hb2 H1
    go_wp2_with (first | (refine wpList_store_row rfl 72 (.tmp 2) (.tmp 18) rfl B #[.int .u16 0, .int .u16 0, .int .u16 0, .int .u32 0, .bool false, .bool false, .bool false, .slice none 0 0] rfl rfl 72 _ (H2.out.get (i := 0) rfl) (frame_info _ _ _ _ _ _ _ _) rfl (by simp [Value.oneCell']) ?_))
    have H9 := Aside0.mk (H2.out.setRow (i := 0) rfl #[.int .u16 0, .int .u16 0, .int .u16 0, .int .u32 0, .bool false, .bool false, .bool false, .slice none 0 0])
    refine bodyPost_ret (results_ct rfl _ _ B _ #[.int .u16 0, .int .u16 0, .int .u16 0, .int .u32 0, .bool false, .bool false, .bool false, .slice none 0 0] (0, 0) _ rfl (H9.out.get (i := 0) rfl) Try.underlying72 rfl (frame_info _ _ _ _ _ _ _ _)) rfl ?_
    exact ⟨FParseR.of HPQ.out (FrC_zero _), H9.out.bel⟩
  · obtain ⟨β, hβ⟩ : ∃ β, sealedB p = β := ⟨_, rfl⟩
    have hq : decide (p.drop (n - 4) = tailL (sumN tab (p.take (n - 4)))) = β := by rw [← hβ]; unfold sealedB; rw [HN.out.2.2]
    refine (open_long β tab tb A n c p _ HT.out (HF.out _ H1.out.bel) HN.out.2.1 HBP.out (by omega) (by have := HN.out.1; omega) hq).mono ?_
    rintro e w2 ⟨v2, rfl, hv2, hb2⟩
    clear hq HT
    cases β with
    | false =>
      have HPQ : Aside0 (parseF p = badF 5) := ⟨by unfold parseF; rw [if_neg (by have := HN.out.2.2; omega), if_pos hβ]⟩
      have H2 := Aside0.mk (H1.out.call hb2)
      obtain ⟨A2, c2, rfl, _, _⟩ := Kd.R_reads hv2
      clear hb2 hv2 H1 hβ
      simp only [Bool.false_eq_true, if_false]
      go_wp2_with (first | (refine wpList_store_row rfl 72 (.tmp 2) (.tmp 18) rfl B #[.int .u16 0, .int .u16 0, .int .u16 0, .int .u32 0, .bool false, .bool false, .bool false, .slice none 0 0] rfl rfl 72 _ (H2.out.get (i := 0) rfl) (frame_info _ _ _ _ _ _ _ _) rfl (by simp [Value.oneCell']) ?_))
      have H9 := Aside0.mk (H2.out.setRow (i := 0) rfl #[.int .u16 0, .int .u16 0, .int .u16 0, .int .u32 0, .bool false, .bool false, .bool false, .slice none 0 0])
      refine bodyPost_ret (results_ct rfl _ _ B _ #[.int .u16 0, .int .u16 0, .int .u16 0, .int .u32 0, .bool false, .bool false, .bool false, .slice none 0 0] (0, 0) _ rfl (H9.out.get (i := 0) rfl) Try.underlying72 rfl (frame_info _ _ _ _ _ _ _ _)) rfl ?_
      exact ⟨FParseR.of HPQ.out (FrC_zero _), H9.out.bel⟩
    | true =>
      simp only [if_true] at hv2 ⊢
      obtain ⟨q, hq⟩ : ∃ q, p.take (n - 4) = q := ⟨_, rfl⟩
      rw [hq] at hv2
      have HPQ : Aside0 (parseF p = if (eyeF q).good p = true then ⟨0, (eyeF q).ep, (eyeF q).sq, (eyeF q).nx, (eyeF q).bt, b1F (eyeF q).fl, b2F (eyeF q).fl, b4F (eyeF q).fl, (eyeF q).D⟩ else badF 2) := ⟨by
        unfold parseF; rw [if_neg (by have := HN.out.2.2; omega), if_neg (by rw [hβ]; decide), HN.out.2.2, hq]⟩
      have HBQ : Aside0 (Bytes q) := ⟨by rw [← hq]; exact HBP.out.take _⟩
      have HQN : Aside0 (q.length ≤ 100000) := ⟨by rw [← hq, List.length_take]; have := HN.out.1; omega⟩
      obtain ⟨A2, c2, rfl, hc2, hC2⟩ := Kd.R_reads hv2
      have H2 := Aside0.mk (H1.out.call hb2)
      have KR := Aside0.mk (read_any A2 q.length c2 q w2 hC2 (by have := HQN.out; omega))
      clear hv2 hb2 hC2 hc2 H1 hβ hq
      go_wp2_with fail
      refine KR.out.mono ?_
      rintro e w3 ⟨ge, rfl, hge, hEy, hb3⟩
      obtain ⟨BB, hBB⟩ : ∃ BB, w3.heap.size = BB := ⟨_, rfl⟩
      rw [hBB] at hEy
      have hgB : ge < BB := by obtain ⟨_, _, _, _, _, _, _, h5⟩ := hEy; exact h5
      have hge2 : B < ge := Nat.lt_of_lt_of_le (H2.out.lt (i := 0) rfl) hge
      have HGE := Aside0.mk (And.intro hge2 (And.intro hgB (show BB ≤ w3.heap.size by omega)))
      have H3 := Aside0.mk (H2.out.call hb3)
      have HE3 := Aside0.mk hEy
      clear hge hEy hb3 hBB hge2 hgB H2 KR
      obtain ⟨⟨mg, l1, b1⟩, e1⟩ : ∃ y, eByte q false = y := ⟨_, rfl⟩
      obtain ⟨⟨ep, l2, b2⟩, e2⟩ : ∃ y, eFix 2 l1 b1 = y := ⟨_, rfl⟩
      obtain ⟨⟨sq, l3, b3⟩, e3⟩ : ∃ y, eFix 2 l2 b2 = y := ⟨_, rfl⟩
      obtain ⟨⟨nx, l4, b4⟩, e4⟩ : ∃ y, eFix 2 l3 b3 = y := ⟨_, rfl⟩
      obtain ⟨⟨bt, l5, b5⟩, e5⟩ : ∃ y, eFix 4 l4 b4 = y := ⟨_, rfl⟩
      obtain ⟨⟨fl, l6, b6⟩, e6⟩ : ∃ y, eByte l5 b5 = y := ⟨_, rfl⟩
      obtain ⟨⟨D, l7, b7⟩, e7⟩ : ∃ y, eBlob 64 l6 b6 = y := ⟨_, rfl⟩
      have HX : Aside0 (eyeF q = ⟨mg, ep, sq, nx, bt, fl, D, l7, b7⟩) := ⟨by unfold eyeF; simp only [e1, e2, e3, e4, e5, e6, e7]⟩
      have q1 : Bytes l1 ∧ (0 ≤ mg ∧ mg < 256) := by have := eByte_b (bad := false) HBQ.out; rw [e1] at this; exact ⟨this.2, this.1⟩
      have q2 : Bytes l2 ∧ (0 ≤ ep ∧ ep < 65536) := by have h1 := eFix_b (bad := b1) 2 q1.1; have h2 := eFix_lt (bad := b1) 2 q1.1; rw [e2] at h1 h2; exact ⟨h1, h2⟩
      have q3 : Bytes l3 ∧ (0 ≤ sq ∧ sq < 65536) := by have h1 := eFix_b (bad := b2) 2 q2.1; have h2 := eFix_lt (bad := b2) 2 q2.1; rw [e3] at h1 h2; exact ⟨h1, h2⟩
      have q4 : Bytes l4 ∧ (0 ≤ nx ∧ nx < 65536) := by have h1 := eFix_b (bad := b3) 2 q3.1; have h2 := eFix_lt (bad := b3) 2 q3.1; rw [e4] at h1 h2; exact ⟨h1, h2⟩
      have q5 : Bytes l5 ∧ (0 ≤ bt ∧ bt < 4294967296) := by have h1 := eFix_b (bad := b4) 4 q4.1; have h2 := eFix_lt (bad := b4) 4 q4.1; rw [e5] at h1 h2; exact ⟨h1, h2⟩
      have q6 : Bytes l6 ∧ (0 ≤ fl ∧ fl < 256) := by have := eByte_b (bad := b5) q5.1; rw [e6] at this; exact ⟨this.2, this.1⟩
      have len1 : l1.length ≤ q.length := by have := congrArg (fun y => y.2.1.length) e1; unfold eByte at this; split at this <;> simp at this <;> omega
      have lenf : ∀ (k : Nat) (l : List Int) (b : Bool), (eFix k l b).2.1.length ≤ l.length := fun k l b => by unfold eFix; split <;> simp
      have lenb : ∀ (l : List Int) (b : Bool), (eByte l b).2.1.length ≤ l.length := fun l b => by unfold eByte; split <;> simp
      have hl6 : l6.length ≤ 100000 := by
        have z2 := lenf 2 l1 b1
        have z3 := lenf 2 l2 b2
        have z4 := lenf 2 l3 b3
        have z5 := lenf 4 l4 b4
        have z6 := lenb l5 b5
        rw [e2] at z2; rw [e3] at z3; rw [e4] at z4; rw [e5] at z5; rw [e6] at z6
        simp only at z2 z3 z4 z5 z6
        have := HQN.out; omega
      have HBND := Aside0.mk (And.intro q1.2 (And.intro q2.2 (And.intro q3.2 (And.intro q4.2 (And.intro q5.2 q6.2)))))
      have K1 := Aside0.mk (fun (X : World) (hx : Ey X ge BB q false) => ebyte_any ge BB q false X hx)
      have K2 := Aside0.mk (fun (X : World) (hx : Ey X ge BB l1 b1) => ehalf_any ge BB l1 b1 X hx q1.1)
      have K3 := Aside0.mk (fun (X : World) (hx : Ey X ge BB l2 b2) => ehalf_any ge BB l2 b2 X hx q2.1)
      have K4 := Aside0.mk (fun (X : World) (hx : Ey X ge BB l3 b3) => ehalf_any ge BB l3 b3 X hx q3.1)
      have K5 := Aside0.mk (fun (X : World) (hx : Ey X ge BB l4 b4) => eword_any ge BB l4 b4 X hx q4.1)
      have K6 := Aside0.mk (fun (X : World) (hx : Ey X ge BB l5 b5) => ebyte_any ge BB l5 b5 X hx)
      have K7 := Aside0.mk (fun (X : World) (hx : Ey X ge BB l6 b6) => eblob_any ge BB l6 b6 64 X hx q6.1 (by omega) (by omega))
      rw [e1] at K1
      rw [e2] at K2
      rw [e3] at K3
      rw [e4] at K4
      rw [e5] at K5
      rw [e6] at K6
      rw [e7] at K7
      have HAB := Aside0.mk (and_b fl q6.2)
      have HDB : Aside0 (Bytes D) := ⟨by have := eblob_bytes 64 (by decide) l6 b6 q6.1; rw [e7] at this; exact this⟩
      clear e1 e2 e3 e4 e5 e6 e7 q1 q2 q3 q4 q5 q6 len1 lenf lenb hl6
      go_wp2_with fail
      refine (K1.out _ HE3.out).mono ?_
      rintro e w4 ⟨rfl, he4⟩
      have H4 := Aside0.mk (H3.out.eyeL he4 (Nat.le_of_lt HGE.out.1) (fun p hp => by obtain rfl := List.mem_singleton.1 hp; exact Nat.ne_of_lt HGE.out.1))
      have HE4 := Aside0.mk he4.1
      have HSZn : Aside0 (w3.heap.size ≤ w4.heap.size) := ⟨he4.2.1.1⟩
      clear he4 H3 HE3 K1
      have HSZ := HSZn
      clear HSZn
      go_wp2_with fail
      refine (K2.out _ HE4.out).mono ?_
      rintro e w5 ⟨rfl, he5⟩
      have H5 := Aside0.mk (H4.out.eyeL he5 (Nat.le_of_lt HGE.out.1) (fun p hp => by obtain rfl := List.mem_singleton.1 hp; exact Nat.ne_of_lt HGE.out.1))
      have HE5 := Aside0.mk he5.1
      have HSZn : Aside0 (w3.heap.size ≤ w5.heap.size) := ⟨Nat.le_trans HSZ.out he5.2.1.1⟩
      clear he5 H4 HE4 K2 HSZ
      have HSZ := HSZn
      clear HSZn
      go_wp2_with fail
      refine (K3.out _ HE5.out).mono ?_
      rintro e w6 ⟨rfl, he6⟩
      have H6 := Aside0.mk (H5.out.eyeL he6 (Nat.le_of_lt HGE.out.1) (fun p hp => by obtain rfl := List.mem_singleton.1 hp; exact Nat.ne_of_lt HGE.out.1))
      have HE6 := Aside0.mk he6.1
      have HSZn : Aside0 (w3.heap.size ≤ w6.heap.size) := ⟨Nat.le_trans HSZ.out he6.2.1.1⟩
      clear he6 H5 HE5 K3 HSZ
      have HSZ := HSZn
      clear HSZn
      go_wp2_with fail
      refine (K4.out _ HE6.out).mono ?_
      rintro e w7 ⟨rfl, he7⟩
      have H7 := Aside0.mk (H6.out.eyeL he7 (Nat.le_of_lt HGE.out.1) (fun p hp => by obtain rfl := List.mem_singleton.1 hp; exact Nat.ne_of_lt HGE.out.1))
      have HE7 := Aside0.mk he7.1
      have HSZn : Aside0 (w3.heap.size ≤ w7.heap.size) := ⟨Nat.le_trans HSZ.out he7.2.1.1⟩
      clear he7 H6 HE6 K4 HSZ
      have HSZ := HSZn
      clear HSZn
      go_wp2_with fail
      refine (K5.out _ HE7.out).mono ?_
      rintro e w8 ⟨rfl, he8⟩
      have H8 := Aside0.mk (H7.out.eyeL he8 (Nat.le_of_lt HGE.out.1) (fun p hp => by obtain rfl := List.mem_singleton.1 hp; exact Nat.ne_of_lt HGE.out.1))
      have HE8 := Aside0.mk he8.1
      have HS8 : Aside0 (ge < w8.heap.size ∧ BB ≤ w8.heap.size) := ⟨Nat.lt_of_lt_of_le (Nat.lt_of_lt_of_le HGE.out.2.1 HGE.out.2.2) (Nat.le_trans HSZ.out he8.2.1.1), Nat.le_trans (Nat.le_trans HGE.out.2.2 HSZ.out) he8.2.1.1⟩
      have HSZn : Aside0 (w3.heap.size ≤ w8.heap.size) := ⟨Nat.le_trans HSZ.out he8.2.1.1⟩
      clear he8 H7 HE7 K5 HSZ
      have HSZ := HSZn
      clear HSZn
      obtain ⟨g8, hg8⟩ : ∃ g8, w8.heap.size = g8 := ⟨_, rfl⟩
      have H9 := Aside0.mk (H8.out.allocAt (.cells #[.int .u16 ep, .int .u16 sq, .int .u16 nx, .int .u32 bt, .bool false, .bool false, .bool false, .slice none 0 0] 72) g8 hg8)
      have HE9 := Aside0.mk (HE8.out.below ((below_alloc (Below.refl w8.heap.size w8) (.cells #[.int .u16 ep, .int .u16 sq, .int .u16 nx, .int .u32 bt, .bool false, .bool false, .bool false, .slice none 0 0] 72)).mono HS8.out.2) HS8.out.2)
      have HG8 : Aside0 (ge < g8 ∧ B < g8 ∧ BB ≤ g8) := ⟨by rw [← hg8]; exact HS8.out.1, by have := HGE.out.1; have := HS8.out.1; omega, by rw [← hg8]; exact HS8.out.2⟩
      clear H8 HE8 HS8 HSZ
      go_wp2_with fail
      generalize w8.alloc (.cells #[.int .u16 ep, .int .u16 sq, .int .u16 nx, .int .u32 bt, .bool false, .bool false, .bool false, .slice none 0 0] 72) = W9 at *
      clear hg8
      refine (K6.out _ HE9.out).mono ?_
      rintro e w10 ⟨rfl, he10⟩
      have H10 := Aside0.mk (H9.out.eyeL he10 (Nat.le_of_lt HGE.out.1) (fun p hp => by
        simp only [List.mem_cons, List.not_mem_nil, or_false] at hp
        rcases hp with rfl | rfl
        · exact Nat.ne_of_gt HG8.out.1
        · exact Nat.ne_of_lt HGE.out.1))
      have HE10 := Aside0.mk he10.1
      clear he10 H9 HE9 K6
      have c4 := blk_cell (H10.out.get (i := 0) rfl) 4
      have c5 := blk_cell (H10.out.get (i := 0) rfl) 5
      have c6 := blk_cell (H10.out.get (i := 0) rfl) 6
      have f4 := blk_frozen (H10.out.get (i := 0) rfl) 4
      have f5 := blk_frozen (H10.out.get (i := 0) rfl) 5
      have f6 := blk_frozen (H10.out.get (i := 0) rfl) 6
      obtain ⟨a1, a2, a4⟩ := HAB.out
      go_wp2_with fail
      clear c4 c5 c6 f4 f5 f6
      try rw [a1]
      try rw [a2]
      try rw [a4]
      clear a1 a2 a4 HAB
      have H11 := Aside0.mk (((H10.out.setCell (i := 0) rfl 4 (.bool (b1F fl))).setCell (i := 0) rfl 5 (.bool (b2F fl))).setCell (i := 0) rfl 6 (.bool (b4F fl)))
      have HE11 := Aside0.mk (HE10.out.below ((((Below.refl BB w10).setCell (p := ⟨g8, 4, none⟩) HG8.out.2.2 (.bool (b1F fl))).setCell (p := ⟨g8, 5, none⟩) HG8.out.2.2 (.bool (b2F fl))).setCell (p := ⟨g8, 6, none⟩) HG8.out.2.2 (.bool (b4F fl))) (Nat.le_trans HG8.out.2.2 (Nat.le_of_lt (H10.out.lt (i := 0) rfl))))
      clear H10 HE10
      generalize ((w10.setCell ⟨g8, 4, none⟩ (.bool (b1F fl))).setCell ⟨g8, 5, none⟩ (.bool (b2F fl))).setCell ⟨g8, 6, none⟩ (.bool (b4F fl)) = W11 at *
      have H12 : Aside0 (Hp B w00 W11 [(g8, .cells #[.int .u16 ep, .int .u16 sq, .int .u16 nx, .int .u32 bt, .bool (b1F fl), .bool (b2F fl), .bool (b4F fl), .slice none 0 0] 72 (0, 0)), (B, .cells #[.int .u16 0, .int .u16 0, .int .u16 0, .int .u32 0, .bool false, .bool false, .bool false, .slice none 0 0] 72 (0, 0))] []) := ⟨H11.out⟩
      clear H11
      refine (K7.out _ HE11.out).mono ?_
      rintro e w13 ⟨w12, vo, rfl, he12, hD, hb13⟩
      have H13 := Aside0.mk (H12.out.eyeL he12 (Nat.le_of_lt HGE.out.1) (fun p hp => by
        simp only [List.mem_cons, List.not_mem_nil, or_false] at hp
        rcases hp with rfl | rfl
        · exact Nat.ne_of_gt HG8.out.1
        · exact Nat.ne_of_lt HGE.out.1))
      have HE13 := Aside0.mk he12.1
      have HSB : Aside0 (BB ≤ w12.heap.size) := ⟨Nat.le_trans HG8.out.2.2 (Nat.le_of_lt (H13.out.lt (i := 0) rfl))⟩
      obtain ⟨Ad, cd, rfl, hcd, _⟩ := Kd.R_reads hD
      have H14 := Aside0.mk (H13.out.row hb13 hD)
      have HE14 := Aside0.mk (HE13.out.below (hb13.mono HSB.out) HSB.out)
      obtain ⟨dn, hdn⟩ : ∃ dn, D.length = dn := ⟨_, rfl⟩
      rw [hdn] at H14 hcd
      rw [hdn]
      have HDN := Aside0.mk (And.intro hdn hcd)
      clear he12 hD hb13 hcd hdn H12 HE11 H13 HE13 K7 HSB
      have c7 := blk_cell (H14.out.get (i := 0) rfl) 7
      have f7 := blk_frozen (H14.out.get (i := 0) rfl) 7
      go_wp2_with fail
      clear c7 f7
      have H15 := Aside0.mk (H14.out.setCell (i := 0) rfl 7 (.slice Ad dn cd))
      have HE15 := Aside0.mk (HE14.out.below ((Below.refl BB w13).setCell (p := ⟨g8, 7, none⟩) HG8.out.2.2 (.slice Ad dn cd)) (Nat.le_trans HG8.out.2.2 (Nat.le_of_lt (H14.out.lt (i := 0) rfl))))
      clear H14 HE14
      generalize w13.setCell ⟨g8, 7, none⟩ (.slice Ad dn cd) = W15 at *
      have H16 : Aside0 (Hp B w00 W15 [(g8, .cells #[.int .u16 ep, .int .u16 sq, .int .u16 nx, .int .u32 bt, .bool (b1F fl), .bool (b2F fl), .bool (b4F fl), .slice Ad dn cd] 72 (0, 0)), (B, .cells #[.int .u16 0, .int .u16 0, .int .u16 0, .int .u32 0, .bool false, .bool false, .bool false, .slice none 0 0] 72 (0, 0))] [fun w => (Kd.int .u8).R 5 w B (fun _ => True) (.slice Ad dn cd) D]) := ⟨H15.out⟩
      clear H15
      have HFR : Aside0 (∀ z, (Kd.int .u8).R 5 z B (fun _ => True) (.slice Ad dn cd) D → FrC z ep sq nx bt (b1F fl) (b2F fl) (b4F fl) D (.agg #[.int .u16 ep, .int .u16 sq, .int .u16 nx, .int .u32 bt, .bool (b1F fl), .bool (b2F fl), .bool (b4F fl), .slice Ad dn cd])) := ⟨fun z hz => ⟨Ad, cd, by rw [HDN.out.1], by rw [HDN.out.1]; exact HDN.out.2, by rw [HDN.out.1]; exact (Ru_C hz).2.2⟩⟩
      have HGD : Aside0 ((eyeF q).good p = (decide (¬ (b7 = true ∨ 0 < l7.length)) && (decide (mg = 86) && (rightF sq dn (b1F fl) (b2F fl) (b4F fl) && decide (fBytes ep.toNat sq.toNat nx.toNat bt.toNat (b1F fl) (b2F fl) (b4F fl) D = p))))) := ⟨by rw [HX.out]; unfold ERes.good; rw [← HDN.out.1]⟩
      refine (done_any ge BB l7 b7 W15 HE15.out).mono ?_
      rintro e w16 ⟨rfl, rfl⟩
      clear HE15
      by_cases hd : b7 = true ∨ 0 < l7.length
      · rw [if_pos hd]
        have HBAD : Aside0 (parseF p = badF 2) := ⟨by rw [HPQ.out, if_neg (by rw [HGD.out, decide_eq_false (fun h => h hd)]; simp)]⟩
        clear hd
        go_wp2_with (first | (refine wpList_store_row rfl 72 (.tmp 2) (.tmp 70) rfl B #[.int .u16 0, .int .u16 0, .int .u16 0, .int .u32 0, .bool false, .bool false, .bool false, .slice none 0 0] rfl rfl 72 _ (H16.out.get (i := 1) rfl) (frame_info _ _ _ _ _ _ _ _) rfl (by simp [Value.oneCell']) ?_))
        have H9 := Aside0.mk (H16.out.setRow (i := 1) rfl #[.int .u16 0, .int .u16 0, .int .u16 0, .int .u32 0, .bool false, .bool false, .bool false, .slice none 0 0])
        refine bodyPost_ret (results_ct rfl _ _ B _ #[.int .u16 0, .int .u16 0, .int .u16 0, .int .u32 0, .bool false, .bool false, .bool false, .slice none 0 0] (0, 0) _ rfl (H9.out.get (i := 1) rfl) Try.underlying72 rfl (frame_info _ _ _ _ _ _ _ _)) rfl ?_
        exact ⟨FParseR.of HBAD.out (FrC_zero _), H9.out.bel⟩
      · rw [if_neg hd]
        have HD1 := Aside0.mk hd
        clear hd
        by_cases hm : mg = 86
        · subst hm
          go_wp2_with (first | (refine wpList_load_row_g 72 (.tmp 8) rfl g8 rfl rfl 72 _ (0, 0) _ (H16.out.get (i := 0) rfl) Try.underlying72 rfl (frame_info _ _ _ _ _ _ _ _) ?_))
          refine (fright_any ep sq nx bt (b1F fl) (b2F fl) (b4F fl) D _ _ (HFR.out _ (H16.out.fact (i := 0) rfl))).mono ?_
          rintro e w17 ⟨rfl, hb17⟩
          have H17 := Aside0.mk (H16.out.call hb17)
          rw [HDN.out.1]
          clear hb17 H16
          obtain ⟨ρ, hρ⟩ : ∃ ρ, rightF sq dn (b1F fl) (b2F fl) (b4F fl) = ρ := ⟨_, rfl⟩
          have HRH := Aside0.mk hρ
          rw [hρ]
          clear hρ
          cases ρ with
          | false =>
            have HBAD : Aside0 (parseF p = badF 2) := ⟨by rw [HPQ.out, if_neg (by rw [HGD.out, HRH.out]; simp)]⟩
            go_wp2_with (first | (refine wpList_store_row rfl 72 (.tmp 2) (.tmp 70) rfl B #[.int .u16 0, .int .u16 0, .int .u16 0, .int .u32 0, .bool false, .bool false, .bool false, .slice none 0 0] rfl rfl 72 _ (H17.out.get (i := 1) rfl) (frame_info _ _ _ _ _ _ _ _) rfl (by simp [Value.oneCell']) ?_))
            have H9 := Aside0.mk (H17.out.setRow (i := 1) rfl #[.int .u16 0, .int .u16 0, .int .u16 0, .int .u32 0, .bool false, .bool false, .bool false, .slice none 0 0])
            refine bodyPost_ret (results_ct rfl _ _ B _ #[.int .u16 0, .int .u16 0, .int .u16 0, .int .u32 0, .bool false, .bool false, .bool false, .slice none 0 0] (0, 0) _ rfl (H9.out.get (i := 1) rfl) Try.underlying72 rfl (frame_info _ _ _ _ _ _ _ _)) rfl ?_
            exact ⟨FParseR.of HBAD.out (FrC_zero _), H9.out.bel⟩
          | true =>
            obtain ⟨epn, rfl⟩ : ∃ x : Nat, ep = (x : Int) := ⟨ep.toNat, by have := HBND.out; omega⟩
            obtain ⟨sqn, rfl⟩ : ∃ x : Nat, sq = (x : Int) := ⟨sq.toNat, by have := HBND.out; omega⟩
            obtain ⟨nxn, rfl⟩ : ∃ x : Nat, nx = (x : Int) := ⟨nx.toNat, by have := HBND.out; omega⟩
            obtain ⟨btn, rfl⟩ : ∃ x : Nat, bt = (x : Int) := ⟨bt.toNat, by have := HBND.out; omega⟩
            have KFB := Aside0.mk (fun (z : World) (h : FrC z epn sqn nxn btn (b1F fl) (b2F fl) (b4F fl) D (.agg #[.int .u16 epn, .int .u16 sqn, .int .u16 nxn, .int .u32 btn, .bool (b1F fl), .bool (b2F fl), .bool (b4F fl), .slice Ad dn cd])) => fbytes_any epn sqn nxn btn (b1F fl) (b2F fl) (b4F fl) D _ z h (by have := HBND.out; omega) HDB.out)
            obtain ⟨fb, hfb⟩ : ∃ fb, fBytes epn sqn nxn btn (b1F fl) (b2F fl) (b4F fl) D = fb := ⟨_, rfl⟩
            have HGD2 : Aside0 ((eyeF q).good p = decide (fb = p)) := ⟨by
              rw [HGD.out, HRH.out, decide_eq_true HD1.out]
              simp only [Int.toNat_natCast, hfb]
              simp⟩
            have HFBB : Aside0 (Bytes fb) := ⟨by rw [← hfb]; exact fBytes_bytes _ _ _ _ _ _ _ D HDB.out⟩
            rw [hfb] at KFB
            clear hfb HGD
            go_wp2_with (first | (refine wpList_load_row_g 72 (.tmp 8) rfl g8 rfl rfl 72 _ (0, 0) _ (H17.out.get (i := 0) rfl) Try.underlying72 rfl (frame_info _ _ _ _ _ _ _ _) ?_))
            refine (KFB.out _ (HFR.out _ (H17.out.fact (i := 0) rfl))).mono ?_
            rintro e w18 ⟨v18, rfl, hv18, hb18⟩
            have H18 := Aside0.mk (H17.out.row hb18 hv18)
            obtain ⟨Af, cf, rfl, hcf, _⟩ := Kd.R_reads hv18
            obtain ⟨fn, hfn⟩ : ∃ fn, fb.length = fn := ⟨_, rfl⟩
            rw [hfn] at H18 hcf
            rw [hfn]
            have HCF := Aside0.mk hcf
            clear hv18 hb18 hcf H17 KFB hfn
            obtain ⟨γ, hγ⟩ : ∃ γ : Bool, γ = true ↔ fb = p := ⟨decide (fb = p), decide_eq_true_iff⟩
            have HGM := Aside0.mk hγ
            go_wp2_with fail
            refine (bequalG_any Af A fn n cf c fb p _ (Ru_C (H18.out.fact (i := 0) rfl)).2.2 HCF.out (HF.out _ H18.out.bel) HN.out.2.1 HFBB.out HBP.out γ hγ).mono ?_
            rintro e w19 ⟨rfl, hb19⟩
            have H19 := Aside0.mk (H18.out.call hb19)
            clear hb19 H18 hγ
            cases γ with
            | false =>
              have HBAD : Aside0 (parseF p = badF 2) := ⟨by rw [HPQ.out, if_neg (by rw [HGD2.out]; simp only [decide_eq_true_iff]; intro h; have := HGM.out.2 h; cases this)]⟩
              go_wp2_with (first | (refine wpList_store_row rfl 72 (.tmp 2) (.tmp 70) rfl B #[.int .u16 0, .int .u16 0, .int .u16 0, .int .u32 0, .bool false, .bool false, .bool false, .slice none 0 0] rfl rfl 72 _ (H19.out.get (i := 1) rfl) (frame_info _ _ _ _ _ _ _ _) rfl (by simp [Value.oneCell']) ?_))
              have H9 := Aside0.mk (H19.out.setRow (i := 1) rfl #[.int .u16 0, .int .u16 0, .int .u16 0, .int .u32 0, .bool false, .bool false, .bool false, .slice none 0 0])
              refine bodyPost_ret (results_ct rfl _ _ B _ #[.int .u16 0, .int .u16 0, .int .u16 0, .int .u32 0, .bool false, .bool false, .bool false, .slice none 0 0] (0, 0) _ rfl (H9.out.get (i := 1) rfl) Try.underlying72 rfl (frame_info _ _ _ _ _ _ _ _)) rfl ?_
              exact ⟨FParseR.of HBAD.out (FrC_zero _), H9.out.bel⟩
            | true =>
              have HOKP : Aside0 (parseF p = ⟨0, epn, sqn, nxn, btn, b1F fl, b2F fl, b4F fl, D⟩) := ⟨by rw [HPQ.out, if_pos (by rw [HGD2.out]; exact decide_eq_true (HGM.out.1 rfl)), HX.out]⟩
              go_wp2_with (first | (refine wpList_load_row_g 72 (.tmp 8) rfl g8 rfl rfl 72 _ (0, 0) _ (H19.out.get (i := 0) rfl) Try.underlying72 rfl (frame_info _ _ _ _ _ _ _ _) ?_) | (refine wpList_store_row rfl 72 (.tmp 2) (.tmp 71) rfl B #[.int .u16 epn, .int .u16 sqn, .int .u16 nxn, .int .u32 btn, .bool (b1F fl), .bool (b2F fl), .bool (b4F fl), .slice Ad dn cd] rfl rfl 72 _ (H19.out.get (i := 1) rfl) (frame_info _ _ _ _ _ _ _ _) rfl (by simp [Value.oneCell']) ?_))
              have H20 := Aside0.mk (H19.out.setRow (i := 1) rfl #[.int .u16 epn, .int .u16 sqn, .int .u16 nxn, .int .u32 btn, .bool (b1F fl), .bool (b2F fl), .bool (b4F fl), .slice Ad dn cd])
              refine bodyPost_ret (results_ct rfl _ _ B _ #[.int .u16 epn, .int .u16 sqn, .int .u16 nxn, .int .u32 btn, .bool (b1F fl), .bool (b2F fl), .bool (b4F fl), .slice Ad dn cd] (0, 0) _ rfl (H20.out.get (i := 1) rfl) Try.underlying72 rfl (frame_info _ _ _ _ _ _ _ _)) rfl ?_
              exact ⟨FParseR.of HOKP.out (HFR.out _ (H20.out.fact (i := 1) rfl)), H20.out.bel⟩
        · have HBAD : Aside0 (parseF p = badF 2) := ⟨by rw [HPQ.out, if_neg (by rw [HGD.out, decide_eq_false hm]; simp)]⟩
          go_wp2_with (first | (refine wpList_store_row rfl 72 (.tmp 2) (.tmp 70) rfl B #[.int .u16 0, .int .u16 0, .int .u16 0, .int .u32 0, .bool false, .bool false, .bool false, .slice none 0 0] rfl rfl 72 _ (H16.out.get (i := 1) rfl) (frame_info _ _ _ _ _ _ _ _) rfl (by simp [Value.oneCell']) ?_))
          have H9 := Aside0.mk (H16.out.setRow (i := 1) rfl #[.int .u16 0, .int .u16 0, .int .u16 0, .int .u32 0, .bool false, .bool false, .bool false, .slice none 0 0])
          refine bodyPost_ret (results_ct rfl _ _ B _ #[.int .u16 0, .int .u16 0, .int .u16 0, .int .u32 0, .bool false, .bool false, .bool false, .slice none 0 0] (0, 0) _ rfl (H9.out.get (i := 1) rfl) Try.underlying72 rfl (frame_info _ _ _ _ _ _ _ _)) rfl ?_
          exact ⟨FParseR.of HBAD.out (FrC_zero _), H9.out.bel⟩
end Go.Proofs.Yticpjidcgaaldaa

namespace Go.Proofs.Yticpjidcgaaldaa
open Go.RowKit Go.Proofs.YticpjidcgaaldaaW.PrintWords Go.Proofs.YticpjidcgaaldaaW.PrintLast Go.Proofs.YticpjidcgaaldaaW.PrintMore
set_option linter.unusedVariables false
set_option linter.unusedSimpArgs false

structure S70 where
  f0 : Int
  f1 : Int
structure S72 where
  f0 : Int
  f1 : Int
  f2 : S70
  f3 : Bool
  f4 : Bool
  f5 : Bool
  f6 : List Int
theorem flagsF_inj (a b c a' b' c' : Bool) : flagsF a b c = flagsF a' b' c' ↔ a = a' ∧ b = b' ∧ c = c' := by
  cases a <;> cases b <;> cases c <;> cases a' <;> cases b' <;> cases c' <;> decide
theorem fBytes_no {ep sq nx bt : Nat} {fi la al : Bool} {D : List Int} (h : rightF sq D.length fi la al = false) : fBytes ep sq nx bt fi la al D = [] := by unfold fBytes; rw [if_neg (by rw [h]; decide)]
theorem fBytes_len {ep sq nx bt : Nat} {fi la al : Bool} {D : List Int} (h : rightF sq D.length fi la al = true) : (fBytes ep sq nx bt fi la al D).length = 17 + D.length := by
  unfold fBytes; rw [if_pos h, sealL_len, fBody_len]; omega
end Go.Proofs.Yticpjidcgaaldaa

namespace Go.Proofs.Yticpjidcgaaldaa
open Go.RowKit Go.Proofs.YticpjidcgaaldaaW.PrintWords Go.Proofs.YticpjidcgaaldaaW.PrintLast Go.Proofs.YticpjidcgaaldaaW.PrintMore
set_option linter.unusedVariables false
set_option linter.unusedSimpArgs false

set_option maxRecDepth 100000 in
set_option maxHeartbeats 16000000 in
theorem fsame_any (ep sq nx bt ep' sq' nx' bt' : Int) (fi la al fi' la' al' : Bool) (D D' : List Int) (v u : Value) (w00 : World) (hv : FrC w00 ep sq nx bt fi la al D v) (hu : FrC w00 ep' sq' nx' bt' fi' la' al' D' u) (hD : Bytes D) (hD' : Bytes D') (β : Bool) (hβ : β = true ↔ ep = ep' ∧ sq = sq' ∧ nx = nx' ∧ bt = bt' ∧ (fi = fi' ∧ la = la' ∧ al = al') ∧ D = D') :
    Calls Try.prog 33 #[v, u] w00 fun e w' => e = .returned (.bool β) ∧ Below w00.heap.size w00 w' := by
  have HBE := Aside0.mk hβ
  have KF := Aside0.mk (fun (z : World) (h : Below w00.heap.size w00 z) => flags_any ep sq nx bt fi la al D v z (hv.below h))
  have KG := Aside0.mk (fun (z : World) (h : Below w00.heap.size w00 z) => flags_any ep' sq' nx' bt' fi' la' al' D' u z (hu.below h))
  obtain ⟨A, c, rfl, h2, h3⟩ := hv
  obtain ⟨A', c', rfl, k2, k3⟩ := hu
  obtain ⟨γ, hγ⟩ : ∃ γ : Bool, γ = true ↔ D = D' := ⟨decide (D = D'), decide_eq_true_iff⟩
  have HGM := Aside0.mk hγ
  have KE := Aside0.mk (fun (z : World) (h : Below w00.heap.size w00 z) => bequalG_any A A' D.length D'.length c c' D D' z (Kd.C_below h3 h) h2 (Kd.C_below k3 h) k2 hD hD' γ hγ)
  have H0 := Aside0.mk (((Hp.start w00).alloc (.cells #[.int .u16 ep, .int .u16 sq, .int .u16 nx, .int .u32 bt, .bool fi, .bool la, .bool al, .slice A D.length c] 72)).allocAt (.cells #[.int .u16 ep', .int .u16 sq', .int .u16 nx', .int .u32 bt', .bool fi', .bool la', .bool al', .slice A' D'.length c'] 72) (w00.heap.size + 1) (by simp))
  clear h2 h3 k2 k3 hD hD' hβ hγ
  obtain ⟨n, hn⟩ : ∃ n, D.length = n := ⟨_, rfl⟩
  obtain ⟨n', hn'⟩ : ∃ n, D'.length = n := ⟨_, rfl⟩
  rw [hn] at KF
  rw [hn'] at KG
  rw [hn, hn'] at KE H0
  rw [hn, hn']
  clear hn hn'
  obtain ⟨fl, hfl⟩ : ∃ x, flagsF fi la al = x := ⟨_, rfl⟩
  obtain ⟨fl', hfl'⟩ : ∃ x, flagsF fi' la' al' = x := ⟨_, rfl⟩
  have HFL := Aside0.mk (flagsF_inj fi la al fi' la' al')
  rw [hfl] at KF HFL
  rw [hfl'] at KG HFL
  clear hfl hfl'
  go_enter Try.func33, Try.ntmps33
  go_wp2_with fail
  generalize (w00.alloc (.cells #[.int .u16 ep, .int .u16 sq, .int .u16 nx, .int .u32 bt, .bool fi, .bool la, .bool al, .slice A n c] 72)).alloc (.cells #[.int .u16 ep', .int .u16 sq', .int .u16 nx', .int .u32 bt', .bool fi', .bool la', .bool al', .slice A' n' c'] 72) = W at *
  obtain ⟨gd, hgd⟩ : ∃ gd, w00.heap.size = gd := ⟨_, rfl⟩
  rw [hgd] at H0 KF KG KE
  rw [hgd]
  have HGD := Aside0.mk hgd
  clear hgd
  have HA : Aside0 (∀ z, Below W.heap.size W z → z.heap[gd]? = some (.cells #[.int .u16 ep, .int .u16 sq, .int .u16 nx, .int .u32 bt, .bool fi, .bool la, .bool al, .slice A n c] 72 (0, 0))) := ⟨fun z hz => (hz.block gd (H0.out.lt (i := 1) rfl)).trans (H0.out.get (i := 1) rfl)⟩
  have HB : Aside0 (∀ z, Below W.heap.size W z → z.heap[gd + 1]? = some (.cells #[.int .u16 ep', .int .u16 sq', .int .u16 nx', .int .u32 bt', .bool fi', .bool la', .bool al', .slice A' n' c'] 72 (0, 0))) := ⟨fun z hz => (hz.block (gd + 1) (H0.out.lt (i := 0) rfl)).trans (H0.out.get (i := 0) rfl)⟩
  have HBW : Aside0 (∀ z, Below W.heap.size W z → Below gd w00 z) := ⟨fun z hz => H0.out.bel.trans (hz.mono H0.out.le)⟩
  by_cases e0 : ep = ep'
  · subst e0
    by_cases e1 : sq = sq'
    · subst e1
      by_cases e2 : nx = nx' ∧ bt = bt'
      · obtain ⟨rfl, rfl⟩ := e2
        by_cases e3 : fl = fl'
        · subst e3
          have HN : Aside0 True := ⟨trivial⟩
          refine region_grown (W := W)
            [fun (w : World) (v : Value) => v = .pointer (some ⟨gd, 0, none⟩),
             fun (w : World) (v : Value) => v = .int .u16 ep,
             fun (w : World) (v : Value) => v = .pointer (some ⟨gd + 1, 0, none⟩),
             fun (w : World) (v : Value) => v = .int .u16 ep,
             fun (w : World) (v : Value) => v = .bool true,
             fun (w : World) (v : Value) => v = .bool true,
             fun (w : World) (v : Value) => v = .pointer (some ⟨gd, 1, none⟩),
             fun (w : World) (v : Value) => v = .int .u16 sq,
             fun (w : World) (v : Value) => v = .pointer (some ⟨gd + 1, 1, none⟩),
             fun (w : World) (v : Value) => v = .int .u16 sq,
             fun (w : World) (v : Value) => v = .bool true,
             fun (w : World) (v : Value) => v = .bool true,
             fun (w : World) (v : Value) => v = .bool true,
             fun (w : World) (v : Value) => v = .pointer (some ⟨gd, 2, none⟩),
             fun (w : World) (v : Value) => v = .agg #[.int .u16 nx, .int .u32 bt],
             fun (w : World) (v : Value) => v = .pointer (some ⟨gd + 1, 2, none⟩),
             fun (w : World) (v : Value) => v = .agg #[.int .u16 nx, .int .u32 bt],
             fun (w : World) (v : Value) => v = .bool true,
             fun (w : World) (v : Value) => v = .bool true,
             fun (w : World) (v : Value) => v = .bool true,
             fun (w : World) (v : Value) => v = .agg #[.int .u16 ep, .int .u16 sq, .int .u16 nx, .int .u32 bt, .bool fi, .bool la, .bool al, .slice A n c],
             fun (w : World) (v : Value) => v = .int .u8 fl,
             fun (w : World) (v : Value) => v = .agg #[.int .u16 ep, .int .u16 sq, .int .u16 nx, .int .u32 bt, .bool fi', .bool la', .bool al', .slice A' n' c'],
             fun (w : World) (v : Value) => v = .int .u8 fl,
             fun (w : World) (v : Value) => v = .bool true,
             fun (w : World) (v : Value) => v = .bool true,
             fun (w : World) (v : Value) => v = .bool true,
             fun (w : World) (v : Value) => v = .pointer (some ⟨gd, 7, none⟩),
             fun (w : World) (v : Value) => v = .slice A n c,
             fun (w : World) (v : Value) => v = .pointer (some ⟨gd + 1, 7, none⟩),
             fun (w : World) (v : Value) => v = .slice A' n' c',
             fun (w : World) (v : Value) => v = .bool γ,
             fun (w : World) (v : Value) => v = .bool γ,
             fun (w : World) (v : Value) => v = .bool γ]
            (fun j => if j = 5 then some true else if j = 12 then some true else if j = 19 then some true else if j = 26 then some true else none)
            [(0, some 5), (1, some 6), (2, some 7), (3, some 8), (4, some 9), (5, some 10), (6, some 11), (7, some 12), (8, some 13), (9, some 14), (10, some 15), (11, some 16), (12, some 17), (13, some 18), (14, some 19), (15, some 20), (16, some 21), (17, some 22), (18, some 23), (19, some 24), (20, some 25), (21, some 26), (22, some 27), (23, some 28), (24, some 29), (25, some 30), (26, some 31), (27, some 32), (28, some 33), (29, some 34), (30, some 35), (31, some 36), (32, some 37), (33, some 4)]
            [5, 12, 19, 26]
            (by kernel_rfl) (by kernel_rfl) (by kernel_rfl) (by kernel_rfl) ?r1_1g ?r1_1s ⟨?r1_1o0, ?r1_1o1, ?r1_1o2, ?r1_1o3, ?r1_1o4, ?r1_1o5, ?r1_1o6, ?r1_1o7, ?r1_1o8, ?r1_1o9, ?r1_1o10, ?r1_1o11, ?r1_1o12, ?r1_1o13, ?r1_1o14, ?r1_1o15, ?r1_1o16, ?r1_1o17, ?r1_1o18, ?r1_1o19, ?r1_1o20, ?r1_1o21, ?r1_1o22, ?r1_1o23, ?r1_1o24, ?r1_1o25, ?r1_1o26, ?r1_1o27, ?r1_1o28, ?r1_1o29, ?r1_1o30, ?r1_1o31, ?r1_1o32, ?r1_1o33, trivial⟩ ?r1_1e
          case r1_1g =>
            intro j hj w v hv
            simp only [List.mem_cons, List.not_mem_nil, or_false] at hj
            rcases hj with rfl | rfl | rfl | rfl
            · have hv' : v = .bool true := hv; rw [hv']; rfl
            · have hv' : v = .bool true := hv; rw [hv']; rfl
            · have hv' : v = .bool true := hv; rw [hv']; rfl
            · have hv' : v = .bool true := hv; rw [hv']; rfl
          case r1_1s =>
            refine ⟨(fun w w' v hb h => h), (fun w w' v hb h => h), (fun w w' v hb h => h), (fun w w' v hb h => h), (fun w w' v hb h => h), (fun w w' v hb h => h), (fun w w' v hb h => h), (fun w w' v hb h => h), (fun w w' v hb h => h), (fun w w' v hb h => h), (fun w w' v hb h => h), (fun w w' v hb h => h), (fun w w' v hb h => h), (fun w w' v hb h => h), (fun w w' v hb h => h), (fun w w' v hb h => h), (fun w w' v hb h => h), (fun w w' v hb h => h), (fun w w' v hb h => h), (fun w w' v hb h => h), (fun w w' v hb h => h), (fun w w' v hb h => h), (fun w w' v hb h => h), (fun w w' v hb h => h), (fun w w' v hb h => h), (fun w w' v hb h => h), (fun w w' v hb h => h), (fun w w' v hb h => h), (fun w w' v hb h => h), (fun w w' v hb h => h), (fun w w' v hb h => h), (fun w w' v hb h => h), (fun w w' v hb h => h), (fun w w' v hb h => h), trivial⟩
          case r1_1o0 =>
            intro vs w hb hV
            rw [if_pos (by kernel_rfl)]
            generalize hρ : rho _ _ _ vs = ρ
            have e2 : ρ (.tmp 2) = .pointer (some ⟨gd, 0, none⟩) := by rw [← hρ]; kernel_rfl
            clear hρ hV
            refine runs_val (v := .pointer (some ⟨gd, 0, none⟩)) (w' := w) ?_ ⟨Below.refl _ _, rfl⟩
            go_simp <;> (first | exact IntWalk.u64_in _ (by omega) | exact IntWalk.u32_in _ (by omega) | exact IntWalk.u16_in _ (by omega) | exact IntWalk.u8_in _ (by omega) | exact IntWalk.i64_in _ (by omega) | skip)
          case r1_1o1 =>
            intro vs w hb hV
            rw [if_pos (by kernel_rfl)]
            generalize hρ : rho _ _ _ vs = ρ
            have d5 : (vs 0) = .pointer (some ⟨gd, 0, none⟩) := hV 0 (by kernel_rfl)
            have e5 : ρ (.tmp 5) = vs 0 := by rw [← hρ]; kernel_rfl
            rw [d5] at e5; clear d5
            clear hρ hV
            have c0 := blk_cell (HA.out w hb) 0
            refine runs_val (v := .int .u16 ep) (w' := w) ?_ ⟨Below.refl _ _, rfl⟩
            go_simp
          case r1_1o2 =>
            intro vs w hb hV
            rw [if_pos (by kernel_rfl)]
            generalize hρ : rho _ _ _ vs = ρ
            have e3 : ρ (.tmp 3) = .pointer (some ⟨gd + 1, 0, none⟩) := by rw [← hρ]; kernel_rfl
            clear hρ hV
            refine runs_val (v := .pointer (some ⟨gd + 1, 0, none⟩)) (w' := w) ?_ ⟨Below.refl _ _, rfl⟩
            go_simp <;> (first | exact IntWalk.u64_in _ (by omega) | exact IntWalk.u32_in _ (by omega) | exact IntWalk.u16_in _ (by omega) | exact IntWalk.u8_in _ (by omega) | exact IntWalk.i64_in _ (by omega) | skip)
          case r1_1o3 =>
            intro vs w hb hV
            rw [if_pos (by kernel_rfl)]
            generalize hρ : rho _ _ _ vs = ρ
            have d7 : (vs 2) = .pointer (some ⟨gd + 1, 0, none⟩) := hV 2 (by kernel_rfl)
            have e7 : ρ (.tmp 7) = vs 2 := by rw [← hρ]; kernel_rfl
            rw [d7] at e7; clear d7
            clear hρ hV
            have c0 := blk_cell (HB.out w hb) 0
            refine runs_val (v := .int .u16 ep) (w' := w) ?_ ⟨Below.refl _ _, rfl⟩
            go_simp
          case r1_1o4 =>
            intro vs w hb hV
            rw [if_pos (by kernel_rfl)]
            generalize hρ : rho _ _ _ vs = ρ
            have d6 : (vs 1) = .int .u16 ep := hV 1 (by kernel_rfl)
            have e6 : ρ (.tmp 6) = vs 1 := by rw [← hρ]; kernel_rfl
            rw [d6] at e6; clear d6
            have d8 : (vs 3) = .int .u16 ep := hV 3 (by kernel_rfl)
            have e8 : ρ (.tmp 8) = vs 3 := by rw [← hρ]; kernel_rfl
            rw [d8] at e8; clear d8
            clear hρ hV
            refine runs_val (v := .bool true) (w' := w) ?_ ⟨Below.refl _ _, rfl⟩
            go_simp <;> (first | exact IntWalk.u64_in _ (by omega) | exact IntWalk.u32_in _ (by omega) | exact IntWalk.u16_in _ (by omega) | exact IntWalk.u8_in _ (by omega) | exact IntWalk.i64_in _ (by omega) | skip)
          case r1_1o5 =>
            intro vs w hb hV
            rw [if_pos (by kernel_rfl)]
            generalize hρ : rho _ _ _ vs = ρ
            have d9 : (vs 4) = .bool true := hV 4 (by kernel_rfl)
            have e9 : ρ (.tmp 9) = vs 4 := by rw [← hρ]; kernel_rfl
            clear hρ hV
            refine runs_val (v := vs 4) (w' := w) ?_ ⟨Below.refl _ _, d9⟩
            go_simp
          case r1_1o6 =>
            intro vs w hb hV
            rw [if_pos (by kernel_rfl)]
            generalize hρ : rho _ _ _ vs = ρ
            have e2 : ρ (.tmp 2) = .pointer (some ⟨gd, 0, none⟩) := by rw [← hρ]; kernel_rfl
            clear hρ hV
            refine runs_val (v := .pointer (some ⟨gd, 1, none⟩)) (w' := w) ?_ ⟨Below.refl _ _, rfl⟩
            go_simp <;> (first | exact IntWalk.u64_in _ (by omega) | exact IntWalk.u32_in _ (by omega) | exact IntWalk.u16_in _ (by omega) | exact IntWalk.u8_in _ (by omega) | exact IntWalk.i64_in _ (by omega) | skip)
          case r1_1o7 =>
            intro vs w hb hV
            rw [if_pos (by kernel_rfl)]
            generalize hρ : rho _ _ _ vs = ρ
            have d11 : (vs 6) = .pointer (some ⟨gd, 1, none⟩) := hV 6 (by kernel_rfl)
            have e11 : ρ (.tmp 11) = vs 6 := by rw [← hρ]; kernel_rfl
            rw [d11] at e11; clear d11
            clear hρ hV
            have c0 := blk_cell (HA.out w hb) 1
            refine runs_val (v := .int .u16 sq) (w' := w) ?_ ⟨Below.refl _ _, rfl⟩
            go_simp
          case r1_1o8 =>
            intro vs w hb hV
            rw [if_pos (by kernel_rfl)]
            generalize hρ : rho _ _ _ vs = ρ
            have e3 : ρ (.tmp 3) = .pointer (some ⟨gd + 1, 0, none⟩) := by rw [← hρ]; kernel_rfl
            clear hρ hV
            refine runs_val (v := .pointer (some ⟨gd + 1, 1, none⟩)) (w' := w) ?_ ⟨Below.refl _ _, rfl⟩
            go_simp <;> (first | exact IntWalk.u64_in _ (by omega) | exact IntWalk.u32_in _ (by omega) | exact IntWalk.u16_in _ (by omega) | exact IntWalk.u8_in _ (by omega) | exact IntWalk.i64_in _ (by omega) | skip)
          case r1_1o9 =>
            intro vs w hb hV
            rw [if_pos (by kernel_rfl)]
            generalize hρ : rho _ _ _ vs = ρ
            have d13 : (vs 8) = .pointer (some ⟨gd + 1, 1, none⟩) := hV 8 (by kernel_rfl)
            have e13 : ρ (.tmp 13) = vs 8 := by rw [← hρ]; kernel_rfl
            rw [d13] at e13; clear d13
            clear hρ hV
            have c0 := blk_cell (HB.out w hb) 1
            refine runs_val (v := .int .u16 sq) (w' := w) ?_ ⟨Below.refl _ _, rfl⟩
            go_simp
          case r1_1o10 =>
            intro vs w hb hV
            rw [if_pos (by kernel_rfl)]
            generalize hρ : rho _ _ _ vs = ρ
            have d12 : (vs 7) = .int .u16 sq := hV 7 (by kernel_rfl)
            have e12 : ρ (.tmp 12) = vs 7 := by rw [← hρ]; kernel_rfl
            rw [d12] at e12; clear d12
            have d14 : (vs 9) = .int .u16 sq := hV 9 (by kernel_rfl)
            have e14 : ρ (.tmp 14) = vs 9 := by rw [← hρ]; kernel_rfl
            rw [d14] at e14; clear d14
            clear hρ hV
            refine runs_val (v := .bool true) (w' := w) ?_ ⟨Below.refl _ _, rfl⟩
            go_simp <;> (first | exact IntWalk.u64_in _ (by omega) | exact IntWalk.u32_in _ (by omega) | exact IntWalk.u16_in _ (by omega) | exact IntWalk.u8_in _ (by omega) | exact IntWalk.i64_in _ (by omega) | skip)
          case r1_1o11 =>
            intro vs w hb hV
            rw [if_pos (by kernel_rfl)]
            generalize hρ : rho _ _ _ vs = ρ
            have d10 : (vs 5) = .bool true := hV 5 (by kernel_rfl)
            have e10 : ρ (.tmp 10) = vs 5 := by rw [← hρ]; kernel_rfl
            rw [d10] at e10; clear d10
            have d15 : (vs 10) = .bool true := hV 10 (by kernel_rfl)
            have e15 : ρ (.tmp 15) = vs 10 := by rw [← hρ]; kernel_rfl
            rw [d15] at e15; clear d15
            have econ : ∀ v : Value, ρ (.const v) = v := fun v => by rw [← hρ]; rfl
            clear hρ hV
            refine runs_val (v := .bool true) (w' := w) ?_ ⟨Below.refl _ _, rfl⟩
            go_simp <;> (first | exact IntWalk.u64_in _ (by omega) | exact IntWalk.u32_in _ (by omega) | exact IntWalk.u16_in _ (by omega) | exact IntWalk.u8_in _ (by omega) | exact IntWalk.i64_in _ (by omega) | skip)
          case r1_1o12 =>
            intro vs w hb hV
            rw [if_pos (by kernel_rfl)]
            generalize hρ : rho _ _ _ vs = ρ
            have d16 : (vs 11) = .bool true := hV 11 (by kernel_rfl)
            have e16 : ρ (.tmp 16) = vs 11 := by rw [← hρ]; kernel_rfl
            clear hρ hV
            refine runs_val (v := vs 11) (w' := w) ?_ ⟨Below.refl _ _, d16⟩
            go_simp
          case r1_1o13 =>
            intro vs w hb hV
            rw [if_pos (by kernel_rfl)]
            generalize hρ : rho _ _ _ vs = ρ
            have e2 : ρ (.tmp 2) = .pointer (some ⟨gd, 0, none⟩) := by rw [← hρ]; kernel_rfl
            clear hρ hV
            refine runs_val (v := .pointer (some ⟨gd, 2, none⟩)) (w' := w) ?_ ⟨Below.refl _ _, rfl⟩
            go_simp <;> (first | exact IntWalk.u64_in _ (by omega) | exact IntWalk.u32_in _ (by omega) | exact IntWalk.u16_in _ (by omega) | exact IntWalk.u8_in _ (by omega) | exact IntWalk.i64_in _ (by omega) | skip)
          case r1_1o14 =>
            intro vs w hb hV
            rw [if_pos (by kernel_rfl)]
            generalize hρ : rho _ _ _ vs = ρ
            have d18 : (vs 13) = .pointer (some ⟨gd, 2, none⟩) := hV 13 (by kernel_rfl)
            have e18 : ρ (.tmp 18) = vs 13 := by rw [← hρ]; kernel_rfl
            rw [d18] at e18; clear d18
            clear hρ hV
            have c0 := blk_cell (HA.out w hb) 2
            have c1 := blk_cell (HA.out w hb) 3
            refine runs_val (v := .agg #[.int .u16 nx, .int .u32 bt]) (w' := w) ?_ ⟨Below.refl _ _, rfl⟩
            go_simp
          case r1_1o15 =>
            intro vs w hb hV
            rw [if_pos (by kernel_rfl)]
            generalize hρ : rho _ _ _ vs = ρ
            have e3 : ρ (.tmp 3) = .pointer (some ⟨gd + 1, 0, none⟩) := by rw [← hρ]; kernel_rfl
            clear hρ hV
            refine runs_val (v := .pointer (some ⟨gd + 1, 2, none⟩)) (w' := w) ?_ ⟨Below.refl _ _, rfl⟩
            go_simp <;> (first | exact IntWalk.u64_in _ (by omega) | exact IntWalk.u32_in _ (by omega) | exact IntWalk.u16_in _ (by omega) | exact IntWalk.u8_in _ (by omega) | exact IntWalk.i64_in _ (by omega) | skip)
          case r1_1o16 =>
            intro vs w hb hV
            rw [if_pos (by kernel_rfl)]
            generalize hρ : rho _ _ _ vs = ρ
            have d20 : (vs 15) = .pointer (some ⟨gd + 1, 2, none⟩) := hV 15 (by kernel_rfl)
            have e20 : ρ (.tmp 20) = vs 15 := by rw [← hρ]; kernel_rfl
            rw [d20] at e20; clear d20
            clear hρ hV
            have c0 := blk_cell (HB.out w hb) 2
            have c1 := blk_cell (HB.out w hb) 3
            refine runs_val (v := .agg #[.int .u16 nx, .int .u32 bt]) (w' := w) ?_ ⟨Below.refl _ _, rfl⟩
            go_simp
          case r1_1o17 =>
            intro vs w hb hV
            rw [if_pos (by kernel_rfl)]
            generalize hρ : rho _ _ _ vs = ρ
            have d19 : (vs 14) = .agg #[.int .u16 nx, .int .u32 bt] := hV 14 (by kernel_rfl)
            have e19 : ρ (.tmp 19) = vs 14 := by rw [← hρ]; kernel_rfl
            rw [d19] at e19; clear d19
            have d21 : (vs 16) = .agg #[.int .u16 nx, .int .u32 bt] := hV 16 (by kernel_rfl)
            have e21 : ρ (.tmp 21) = vs 16 := by rw [← hρ]; kernel_rfl
            rw [d21] at e21; clear d21
            clear hρ hV
            have hh := HN.out
            refine runs_val (v := .bool true) (w' := w) ?_ ⟨Below.refl _ _, rfl⟩
            go_simp
          case r1_1o18 =>
            intro vs w hb hV
            rw [if_pos (by kernel_rfl)]
            generalize hρ : rho _ _ _ vs = ρ
            have d17 : (vs 12) = .bool true := hV 12 (by kernel_rfl)
            have e17 : ρ (.tmp 17) = vs 12 := by rw [← hρ]; kernel_rfl
            rw [d17] at e17; clear d17
            have d22 : (vs 17) = .bool true := hV 17 (by kernel_rfl)
            have e22 : ρ (.tmp 22) = vs 17 := by rw [← hρ]; kernel_rfl
            rw [d22] at e22; clear d22
            have econ : ∀ v : Value, ρ (.const v) = v := fun v => by rw [← hρ]; rfl
            clear hρ hV
            refine runs_val (v := .bool true) (w' := w) ?_ ⟨Below.refl _ _, rfl⟩
            go_simp <;> (first | exact IntWalk.u64_in _ (by omega) | exact IntWalk.u32_in _ (by omega) | exact IntWalk.u16_in _ (by omega) | exact IntWalk.u8_in _ (by omega) | exact IntWalk.i64_in _ (by omega) | skip)
          case r1_1o19 =>
            intro vs w hb hV
            rw [if_pos (by kernel_rfl)]
            generalize hρ : rho _ _ _ vs = ρ
            have d23 : (vs 18) = .bool true := hV 18 (by kernel_rfl)
            have e23 : ρ (.tmp 23) = vs 18 := by rw [← hρ]; kernel_rfl
            clear hρ hV
            refine runs_val (v := vs 18) (w' := w) ?_ ⟨Below.refl _ _, d23⟩
            go_simp
          case r1_1o20 =>
            intro vs w hb hV
            rw [if_pos (by kernel_rfl)]
            generalize hρ : rho _ _ _ vs = ρ
            have e2 : ρ (.tmp 2) = .pointer (some ⟨gd, 0, none⟩) := by rw [← hρ]; kernel_rfl
            clear hρ hV
            exact runs_load 72 (.tmp 2) rfl gd e2 72 #[.int .u16 ep, .int .u16 sq, .int .u16 nx, .int .u32 bt, .bool fi, .bool la, .bool al, .slice A n c] (0, 0) _ (HA.out w hb) Try.underlying72 rfl (frame_info _ _ _ _ _ _ _ _) ⟨Below.refl _ _, rfl⟩
          case r1_1o21 =>
            intro vs w hb hV
            rw [if_pos (by kernel_rfl)]
            generalize hρ : rho _ _ _ vs = ρ
            have d25 : (vs 20) = .agg #[.int .u16 ep, .int .u16 sq, .int .u16 nx, .int .u32 bt, .bool fi, .bool la, .bool al, .slice A n c] := hV 20 (by kernel_rfl)
            have e25 : ρ (.tmp 25) = vs 20 := by rw [← hρ]; kernel_rfl
            rw [d25] at e25; clear d25
            have ef60 : ρ (.func 60) = .func (.func 60) #[] #[] := by rw [← hρ]; rfl
            clear hρ hV
            refine runs_call (f := 60) (args := #[.agg #[.int .u16 ep, .int .u16 sq, .int .u16 nx, .int .u32 bt, .bool fi, .bool la, .bool al, .slice A n c]]) (w' := w) ?_ ?_
            · go_simp
            · refine (KF.out w (HBW.out w hb)).mono ?_
              rintro e w5 ⟨rfl, hb5⟩
              exact ⟨_, rfl, hb5, rfl⟩
          case r1_1o22 =>
            intro vs w hb hV
            rw [if_pos (by kernel_rfl)]
            generalize hρ : rho _ _ _ vs = ρ
            have e3 : ρ (.tmp 3) = .pointer (some ⟨gd + 1, 0, none⟩) := by rw [← hρ]; kernel_rfl
            clear hρ hV
            exact runs_load 72 (.tmp 3) rfl (gd + 1) e3 72 #[.int .u16 ep, .int .u16 sq, .int .u16 nx, .int .u32 bt, .bool fi', .bool la', .bool al', .slice A' n' c'] (0, 0) _ (HB.out w hb) Try.underlying72 rfl (frame_info _ _ _ _ _ _ _ _) ⟨Below.refl _ _, rfl⟩
          case r1_1o23 =>
            intro vs w hb hV
            rw [if_pos (by kernel_rfl)]
            generalize hρ : rho _ _ _ vs = ρ
            have d27 : (vs 22) = .agg #[.int .u16 ep, .int .u16 sq, .int .u16 nx, .int .u32 bt, .bool fi', .bool la', .bool al', .slice A' n' c'] := hV 22 (by kernel_rfl)
            have e27 : ρ (.tmp 27) = vs 22 := by rw [← hρ]; kernel_rfl
            rw [d27] at e27; clear d27
            have ef60 : ρ (.func 60) = .func (.func 60) #[] #[] := by rw [← hρ]; rfl
            clear hρ hV
            refine runs_call (f := 60) (args := #[.agg #[.int .u16 ep, .int .u16 sq, .int .u16 nx, .int .u32 bt, .bool fi', .bool la', .bool al', .slice A' n' c']]) (w' := w) ?_ ?_
            · go_simp
            · refine (KG.out w (HBW.out w hb)).mono ?_
              rintro e w5 ⟨rfl, hb5⟩
              exact ⟨_, rfl, hb5, rfl⟩
          case r1_1o24 =>
            intro vs w hb hV
            rw [if_pos (by kernel_rfl)]
            generalize hρ : rho _ _ _ vs = ρ
            have d26 : (vs 21) = .int .u8 fl := hV 21 (by kernel_rfl)
            have e26 : ρ (.tmp 26) = vs 21 := by rw [← hρ]; kernel_rfl
            rw [d26] at e26; clear d26
            have d28 : (vs 23) = .int .u8 fl := hV 23 (by kernel_rfl)
            have e28 : ρ (.tmp 28) = vs 23 := by rw [← hρ]; kernel_rfl
            rw [d28] at e28; clear d28
            clear hρ hV
            refine runs_val (v := .bool true) (w' := w) ?_ ⟨Below.refl _ _, rfl⟩
            go_simp <;> (first | exact IntWalk.u64_in _ (by omega) | exact IntWalk.u32_in _ (by omega) | exact IntWalk.u16_in _ (by omega) | exact IntWalk.u8_in _ (by omega) | exact IntWalk.i64_in _ (by omega) | skip)
          case r1_1o25 =>
            intro vs w hb hV
            rw [if_pos (by kernel_rfl)]
            generalize hρ : rho _ _ _ vs = ρ
            have d24 : (vs 19) = .bool true := hV 19 (by kernel_rfl)
            have e24 : ρ (.tmp 24) = vs 19 := by rw [← hρ]; kernel_rfl
            rw [d24] at e24; clear d24
            have d29 : (vs 24) = .bool true := hV 24 (by kernel_rfl)
            have e29 : ρ (.tmp 29) = vs 24 := by rw [← hρ]; kernel_rfl
            rw [d29] at e29; clear d29
            have econ : ∀ v : Value, ρ (.const v) = v := fun v => by rw [← hρ]; rfl
            clear hρ hV
            refine runs_val (v := .bool true) (w' := w) ?_ ⟨Below.refl _ _, rfl⟩
            go_simp <;> (first | exact IntWalk.u64_in _ (by omega) | exact IntWalk.u32_in _ (by omega) | exact IntWalk.u16_in _ (by omega) | exact IntWalk.u8_in _ (by omega) | exact IntWalk.i64_in _ (by omega) | skip)
          case r1_1o26 =>
            intro vs w hb hV
            rw [if_pos (by kernel_rfl)]
            generalize hρ : rho _ _ _ vs = ρ
            have d30 : (vs 25) = .bool true := hV 25 (by kernel_rfl)
            have e30 : ρ (.tmp 30) = vs 25 := by rw [← hρ]; kernel_rfl
            clear hρ hV
            refine runs_val (v := vs 25) (w' := w) ?_ ⟨Below.refl _ _, d30⟩
            go_simp
          case r1_1o27 =>
            intro vs w hb hV
            rw [if_pos (by kernel_rfl)]
            generalize hρ : rho _ _ _ vs = ρ
            have e2 : ρ (.tmp 2) = .pointer (some ⟨gd, 0, none⟩) := by rw [← hρ]; kernel_rfl
            clear hρ hV
            refine runs_val (v := .pointer (some ⟨gd, 7, none⟩)) (w' := w) ?_ ⟨Below.refl _ _, rfl⟩
            go_simp <;> (first | exact IntWalk.u64_in _ (by omega) | exact IntWalk.u32_in _ (by omega) | exact IntWalk.u16_in _ (by omega) | exact IntWalk.u8_in _ (by omega) | exact IntWalk.i64_in _ (by omega) | skip)
          case r1_1o28 =>
            intro vs w hb hV
            rw [if_pos (by kernel_rfl)]
            generalize hρ : rho _ _ _ vs = ρ
            have d32 : (vs 27) = .pointer (some ⟨gd, 7, none⟩) := hV 27 (by kernel_rfl)
            have e32 : ρ (.tmp 32) = vs 27 := by rw [← hρ]; kernel_rfl
            rw [d32] at e32; clear d32
            clear hρ hV
            have c0 := blk_cell (HA.out w hb) 7
            refine runs_val (v := .slice A n c) (w' := w) ?_ ⟨Below.refl _ _, rfl⟩
            go_simp
          case r1_1o29 =>
            intro vs w hb hV
            rw [if_pos (by kernel_rfl)]
            generalize hρ : rho _ _ _ vs = ρ
            have e3 : ρ (.tmp 3) = .pointer (some ⟨gd + 1, 0, none⟩) := by rw [← hρ]; kernel_rfl
            clear hρ hV
            refine runs_val (v := .pointer (some ⟨gd + 1, 7, none⟩)) (w' := w) ?_ ⟨Below.refl _ _, rfl⟩
            go_simp <;> (first | exact IntWalk.u64_in _ (by omega) | exact IntWalk.u32_in _ (by omega) | exact IntWalk.u16_in _ (by omega) | exact IntWalk.u8_in _ (by omega) | exact IntWalk.i64_in _ (by omega) | skip)
          case r1_1o30 =>
            intro vs w hb hV
            rw [if_pos (by kernel_rfl)]
            generalize hρ : rho _ _ _ vs = ρ
            have d34 : (vs 29) = .pointer (some ⟨gd + 1, 7, none⟩) := hV 29 (by kernel_rfl)
            have e34 : ρ (.tmp 34) = vs 29 := by rw [← hρ]; kernel_rfl
            rw [d34] at e34; clear d34
            clear hρ hV
            have c0 := blk_cell (HB.out w hb) 7
            refine runs_val (v := .slice A' n' c') (w' := w) ?_ ⟨Below.refl _ _, rfl⟩
            go_simp
          case r1_1o31 =>
            intro vs w hb hV
            rw [if_pos (by kernel_rfl)]
            generalize hρ : rho _ _ _ vs = ρ
            have d33 : (vs 28) = .slice A n c := hV 28 (by kernel_rfl)
            have e33 : ρ (.tmp 33) = vs 28 := by rw [← hρ]; kernel_rfl
            rw [d33] at e33; clear d33
            have d35 : (vs 30) = .slice A' n' c' := hV 30 (by kernel_rfl)
            have e35 : ρ (.tmp 35) = vs 30 := by rw [← hρ]; kernel_rfl
            rw [d35] at e35; clear d35
            have ef66 : ρ (.func 66) = .func (.func 66) #[] #[] := by rw [← hρ]; rfl
            clear hρ hV
            refine runs_call (f := 66) (args := #[.slice A n c, .slice A' n' c']) (w' := w) ?_ ?_
            · go_simp
            · refine (KE.out w (HBW.out w hb)).mono ?_
              rintro e w5 ⟨rfl, hb5⟩
              exact ⟨_, rfl, hb5, rfl⟩
          case r1_1o32 =>
            intro vs w hb hV
            rw [if_pos (by kernel_rfl)]
            generalize hρ : rho _ _ _ vs = ρ
            have d31 : (vs 26) = .bool true := hV 26 (by kernel_rfl)
            have e31 : ρ (.tmp 31) = vs 26 := by rw [← hρ]; kernel_rfl
            rw [d31] at e31; clear d31
            have d36 : (vs 31) = .bool γ := hV 31 (by kernel_rfl)
            have e36 : ρ (.tmp 36) = vs 31 := by rw [← hρ]; kernel_rfl
            rw [d36] at e36; clear d36
            have econ : ∀ v : Value, ρ (.const v) = v := fun v => by rw [← hρ]; rfl
            clear hρ hV
            refine runs_val (v := .bool γ) (w' := w) ?_ ⟨Below.refl _ _, rfl⟩
            go_simp <;> (first | exact IntWalk.u64_in _ (by omega) | exact IntWalk.u32_in _ (by omega) | exact IntWalk.u16_in _ (by omega) | exact IntWalk.u8_in _ (by omega) | exact IntWalk.i64_in _ (by omega) | skip)
          case r1_1o33 =>
            intro vs w hb hV
            rw [if_pos (by kernel_rfl)]
            generalize hρ : rho _ _ _ vs = ρ
            have d37 : (vs 32) = .bool γ := hV 32 (by kernel_rfl)
            have e37 : ρ (.tmp 37) = vs 32 := by rw [← hρ]; kernel_rfl
            clear hρ hV
            refine runs_val (v := vs 32) (w' := w) ?_ ⟨Below.refl _ _, d37⟩
            go_simp
          case r1_1e =>
            intro vs W2 hb2 hV
            have d5 : (vs 0) = .pointer (some ⟨gd, 0, none⟩) := hV 0 (Nat.le_of_ble_eq_true rfl)
            have d6 : (vs 1) = .int .u16 ep := hV 1 (Nat.le_of_ble_eq_true rfl)
            have d7 : (vs 2) = .pointer (some ⟨gd + 1, 0, none⟩) := hV 2 (Nat.le_of_ble_eq_true rfl)
            have d8 : (vs 3) = .int .u16 ep := hV 3 (Nat.le_of_ble_eq_true rfl)
            have d9 : (vs 4) = .bool true := hV 4 (Nat.le_of_ble_eq_true rfl)
            have d10 : (vs 5) = .bool true := hV 5 (Nat.le_of_ble_eq_true rfl)
            have d11 : (vs 6) = .pointer (some ⟨gd, 1, none⟩) := hV 6 (Nat.le_of_ble_eq_true rfl)
            have d12 : (vs 7) = .int .u16 sq := hV 7 (Nat.le_of_ble_eq_true rfl)
            have d13 : (vs 8) = .pointer (some ⟨gd + 1, 1, none⟩) := hV 8 (Nat.le_of_ble_eq_true rfl)
            have d14 : (vs 9) = .int .u16 sq := hV 9 (Nat.le_of_ble_eq_true rfl)
            have d15 : (vs 10) = .bool true := hV 10 (Nat.le_of_ble_eq_true rfl)
            have d16 : (vs 11) = .bool true := hV 11 (Nat.le_of_ble_eq_true rfl)
            have d17 : (vs 12) = .bool true := hV 12 (Nat.le_of_ble_eq_true rfl)
            have d18 : (vs 13) = .pointer (some ⟨gd, 2, none⟩) := hV 13 (Nat.le_of_ble_eq_true rfl)
            have d19 : (vs 14) = .agg #[.int .u16 nx, .int .u32 bt] := hV 14 (Nat.le_of_ble_eq_true rfl)
            have d20 : (vs 15) = .pointer (some ⟨gd + 1, 2, none⟩) := hV 15 (Nat.le_of_ble_eq_true rfl)
            have d21 : (vs 16) = .agg #[.int .u16 nx, .int .u32 bt] := hV 16 (Nat.le_of_ble_eq_true rfl)
            have d22 : (vs 17) = .bool true := hV 17 (Nat.le_of_ble_eq_true rfl)
            have d23 : (vs 18) = .bool true := hV 18 (Nat.le_of_ble_eq_true rfl)
            have d24 : (vs 19) = .bool true := hV 19 (Nat.le_of_ble_eq_true rfl)
            have d25 : (vs 20) = .agg #[.int .u16 ep, .int .u16 sq, .int .u16 nx, .int .u32 bt, .bool fi, .bool la, .bool al, .slice A n c] := hV 20 (Nat.le_of_ble_eq_true rfl)
            have d26 : (vs 21) = .int .u8 fl := hV 21 (Nat.le_of_ble_eq_true rfl)
            have d27 : (vs 22) = .agg #[.int .u16 ep, .int .u16 sq, .int .u16 nx, .int .u32 bt, .bool fi', .bool la', .bool al', .slice A' n' c'] := hV 22 (Nat.le_of_ble_eq_true rfl)
            have d28 : (vs 23) = .int .u8 fl := hV 23 (Nat.le_of_ble_eq_true rfl)
            have d29 : (vs 24) = .bool true := hV 24 (Nat.le_of_ble_eq_true rfl)
            have d30 : (vs 25) = .bool true := hV 25 (Nat.le_of_ble_eq_true rfl)
            have d31 : (vs 26) = .bool true := hV 26 (Nat.le_of_ble_eq_true rfl)
            have d32 : (vs 27) = .pointer (some ⟨gd, 7, none⟩) := hV 27 (Nat.le_of_ble_eq_true rfl)
            have d33 : (vs 28) = .slice A n c := hV 28 (Nat.le_of_ble_eq_true rfl)
            have d34 : (vs 29) = .pointer (some ⟨gd + 1, 7, none⟩) := hV 29 (Nat.le_of_ble_eq_true rfl)
            have d35 : (vs 30) = .slice A' n' c' := hV 30 (Nat.le_of_ble_eq_true rfl)
            have d36 : (vs 31) = .bool γ := hV 31 (Nat.le_of_ble_eq_true rfl)
            have d37 : (vs 32) = .bool γ := hV 32 (Nat.le_of_ble_eq_true rfl)
            have d4 : (vs 33) = .bool γ := hV 33 (Nat.le_of_ble_eq_true rfl)
            clear hV
            simp only [putAll]
            rw [d5, d6, d7, d8, d9, d10, d11, d12, d13, d14, d15, d16, d17, d18, d19, d20, d21, d22, d23, d24, d25, d26, d27, d28, d29, d30, d31, d32, d33, d34, d35, d36, d37, d4]
            clear d5 d6 d7 d8 d9 d10 d11 d12 d13 d14 d15 d16 d17 d18 d19 d20 d21 d22 d23 d24 d25 d26 d27 d28 d29 d30 d31 d32 d33 d34 d35 d36 d37 d4
            clear vs
            simp only [Act.put, List.setIfInBounds_toArray, List.set_cons_zero, List.set_cons_succ]
            have HV : Aside0 (β = γ) := ⟨by rw [Bool.eq_iff_iff, HBE.out, HGM.out]; exact ⟨fun h => h.2.2.2.2.2, fun h => ⟨rfl, rfl, rfl, rfl, HFL.out.1 rfl, h⟩⟩⟩
            go_wp2_with fail
            go_ret
            rw [HGD.out, HV.out]
            exact ⟨rfl, HBW.out _ hb2⟩
        · have HN := Aside0.mk e3
          refine region_grown (W := W)
            [fun (w : World) (v : Value) => v = .pointer (some ⟨gd, 0, none⟩),
             fun (w : World) (v : Value) => v = .int .u16 ep,
             fun (w : World) (v : Value) => v = .pointer (some ⟨gd + 1, 0, none⟩),
             fun (w : World) (v : Value) => v = .int .u16 ep,
             fun (w : World) (v : Value) => v = .bool true,
             fun (w : World) (v : Value) => v = .bool true,
             fun (w : World) (v : Value) => v = .pointer (some ⟨gd, 1, none⟩),
             fun (w : World) (v : Value) => v = .int .u16 sq,
             fun (w : World) (v : Value) => v = .pointer (some ⟨gd + 1, 1, none⟩),
             fun (w : World) (v : Value) => v = .int .u16 sq,
             fun (w : World) (v : Value) => v = .bool true,
             fun (w : World) (v : Value) => v = .bool true,
             fun (w : World) (v : Value) => v = .bool true,
             fun (w : World) (v : Value) => v = .pointer (some ⟨gd, 2, none⟩),
             fun (w : World) (v : Value) => v = .agg #[.int .u16 nx, .int .u32 bt],
             fun (w : World) (v : Value) => v = .pointer (some ⟨gd + 1, 2, none⟩),
             fun (w : World) (v : Value) => v = .agg #[.int .u16 nx, .int .u32 bt],
             fun (w : World) (v : Value) => v = .bool true,
             fun (w : World) (v : Value) => v = .bool true,
             fun (w : World) (v : Value) => v = .bool true,
             fun (w : World) (v : Value) => v = .agg #[.int .u16 ep, .int .u16 sq, .int .u16 nx, .int .u32 bt, .bool fi, .bool la, .bool al, .slice A n c],
             fun (w : World) (v : Value) => v = .int .u8 fl,
             fun (w : World) (v : Value) => v = .agg #[.int .u16 ep, .int .u16 sq, .int .u16 nx, .int .u32 bt, .bool fi', .bool la', .bool al', .slice A' n' c'],
             fun (w : World) (v : Value) => v = .int .u8 fl',
             fun (w : World) (v : Value) => v = .bool false,
             fun (w : World) (v : Value) => v = .bool false,
             fun (w : World) (v : Value) => v = .bool false,
             fun (w : World) (v : Value) => v = undef,
             fun (w : World) (v : Value) => v = undef,
             fun (w : World) (v : Value) => v = undef,
             fun (w : World) (v : Value) => v = undef,
             fun (w : World) (v : Value) => v = undef,
             fun (w : World) (v : Value) => v = .bool false,
             fun (w : World) (v : Value) => v = .bool false]
            (fun j => if j = 5 then some true else if j = 12 then some true else if j = 19 then some true else if j = 26 then some false else none)
            [(0, some 5), (1, some 6), (2, some 7), (3, some 8), (4, some 9), (5, some 10), (6, some 11), (7, some 12), (8, some 13), (9, some 14), (10, some 15), (11, some 16), (12, some 17), (13, some 18), (14, some 19), (15, some 20), (16, some 21), (17, some 22), (18, some 23), (19, some 24), (20, some 25), (21, some 26), (22, some 27), (23, some 28), (24, some 29), (25, some 30), (26, some 31), (27, some 32), (28, some 33), (29, some 34), (30, some 35), (31, some 36), (32, some 37), (33, some 4)]
            [5, 12, 19, 26]
            (by kernel_rfl) (by kernel_rfl) (by kernel_rfl) (by kernel_rfl) ?r1_2g ?r1_2s ⟨?r1_2o0, ?r1_2o1, ?r1_2o2, ?r1_2o3, ?r1_2o4, ?r1_2o5, ?r1_2o6, ?r1_2o7, ?r1_2o8, ?r1_2o9, ?r1_2o10, ?r1_2o11, ?r1_2o12, ?r1_2o13, ?r1_2o14, ?r1_2o15, ?r1_2o16, ?r1_2o17, ?r1_2o18, ?r1_2o19, ?r1_2o20, ?r1_2o21, ?r1_2o22, ?r1_2o23, ?r1_2o24, ?r1_2o25, ?r1_2o26, ?r1_2o27, ?r1_2o28, ?r1_2o29, ?r1_2o30, ?r1_2o31, ?r1_2o32, ?r1_2o33, trivial⟩ ?r1_2e
          case r1_2g =>
            intro j hj w v hv
            simp only [List.mem_cons, List.not_mem_nil, or_false] at hj
            rcases hj with rfl | rfl | rfl | rfl
            · have hv' : v = .bool true := hv; rw [hv']; rfl
            · have hv' : v = .bool true := hv; rw [hv']; rfl
            · have hv' : v = .bool true := hv; rw [hv']; rfl
            · have hv' : v = .bool false := hv; rw [hv']; rfl
          case r1_2s =>
            refine ⟨(fun w w' v hb h => h), (fun w w' v hb h => h), (fun w w' v hb h => h), (fun w w' v hb h => h), (fun w w' v hb h => h), (fun w w' v hb h => h), (fun w w' v hb h => h), (fun w w' v hb h => h), (fun w w' v hb h => h), (fun w w' v hb h => h), (fun w w' v hb h => h), (fun w w' v hb h => h), (fun w w' v hb h => h), (fun w w' v hb h => h), (fun w w' v hb h => h), (fun w w' v hb h => h), (fun w w' v hb h => h), (fun w w' v hb h => h), (fun w w' v hb h => h), (fun w w' v hb h => h), (fun w w' v hb h => h), (fun w w' v hb h => h), (fun w w' v hb h => h), (fun w w' v hb h => h), (fun w w' v hb h => h), (fun w w' v hb h => h), (fun w w' v hb h => h), (fun w w' v hb h => h), (fun w w' v hb h => h), (fun w w' v hb h => h), (fun w w' v hb h => h), (fun w w' v hb h => h), (fun w w' v hb h => h), (fun w w' v hb h => h), trivial⟩
          case r1_2o0 =>
            intro vs w hb hV
            rw [if_pos (by kernel_rfl)]
            generalize hρ : rho _ _ _ vs = ρ
            have e2 : ρ (.tmp 2) = .pointer (some ⟨gd, 0, none⟩) := by rw [← hρ]; kernel_rfl
            clear hρ hV
            refine runs_val (v := .pointer (some ⟨gd, 0, none⟩)) (w' := w) ?_ ⟨Below.refl _ _, rfl⟩
            go_simp <;> (first | exact IntWalk.u64_in _ (by omega) | exact IntWalk.u32_in _ (by omega) | exact IntWalk.u16_in _ (by omega) | exact IntWalk.u8_in _ (by omega) | exact IntWalk.i64_in _ (by omega) | skip)
          case r1_2o1 =>
            intro vs w hb hV
            rw [if_pos (by kernel_rfl)]
            generalize hρ : rho _ _ _ vs = ρ
            have d5 : (vs 0) = .pointer (some ⟨gd, 0, none⟩) := hV 0 (by kernel_rfl)
            have e5 : ρ (.tmp 5) = vs 0 := by rw [← hρ]; kernel_rfl
            rw [d5] at e5; clear d5
            clear hρ hV
            have c0 := blk_cell (HA.out w hb) 0
            refine runs_val (v := .int .u16 ep) (w' := w) ?_ ⟨Below.refl _ _, rfl⟩
            go_simp
          case r1_2o2 =>
            intro vs w hb hV
            rw [if_pos (by kernel_rfl)]
            generalize hρ : rho _ _ _ vs = ρ
            have e3 : ρ (.tmp 3) = .pointer (some ⟨gd + 1, 0, none⟩) := by rw [← hρ]; kernel_rfl
            clear hρ hV
            refine runs_val (v := .pointer (some ⟨gd + 1, 0, none⟩)) (w' := w) ?_ ⟨Below.refl _ _, rfl⟩
            go_simp <;> (first | exact IntWalk.u64_in _ (by omega) | exact IntWalk.u32_in _ (by omega) | exact IntWalk.u16_in _ (by omega) | exact IntWalk.u8_in _ (by omega) | exact IntWalk.i64_in _ (by omega) | skip)
          case r1_2o3 =>
            intro vs w hb hV
            rw [if_pos (by kernel_rfl)]
            generalize hρ : rho _ _ _ vs = ρ
            have d7 : (vs 2) = .pointer (some ⟨gd + 1, 0, none⟩) := hV 2 (by kernel_rfl)
            have e7 : ρ (.tmp 7) = vs 2 := by rw [← hρ]; kernel_rfl
            rw [d7] at e7; clear d7
            clear hρ hV
            have c0 := blk_cell (HB.out w hb) 0
            refine runs_val (v := .int .u16 ep) (w' := w) ?_ ⟨Below.refl _ _, rfl⟩
            go_simp
          case r1_2o4 =>
            intro vs w hb hV
            rw [if_pos (by kernel_rfl)]
            generalize hρ : rho _ _ _ vs = ρ
            have d6 : (vs 1) = .int .u16 ep := hV 1 (by kernel_rfl)
            have e6 : ρ (.tmp 6) = vs 1 := by rw [← hρ]; kernel_rfl
            rw [d6] at e6; clear d6
            have d8 : (vs 3) = .int .u16 ep := hV 3 (by kernel_rfl)
            have e8 : ρ (.tmp 8) = vs 3 := by rw [← hρ]; kernel_rfl
            rw [d8] at e8; clear d8
            clear hρ hV
            refine runs_val (v := .bool true) (w' := w) ?_ ⟨Below.refl _ _, rfl⟩
            go_simp <;> (first | exact IntWalk.u64_in _ (by omega) | exact IntWalk.u32_in _ (by omega) | exact IntWalk.u16_in _ (by omega) | exact IntWalk.u8_in _ (by omega) | exact IntWalk.i64_in _ (by omega) | skip)
          case r1_2o5 =>
            intro vs w hb hV
            rw [if_pos (by kernel_rfl)]
            generalize hρ : rho _ _ _ vs = ρ
            have d9 : (vs 4) = .bool true := hV 4 (by kernel_rfl)
            have e9 : ρ (.tmp 9) = vs 4 := by rw [← hρ]; kernel_rfl
            clear hρ hV
            refine runs_val (v := vs 4) (w' := w) ?_ ⟨Below.refl _ _, d9⟩
            go_simp
          case r1_2o6 =>
            intro vs w hb hV
            rw [if_pos (by kernel_rfl)]
            generalize hρ : rho _ _ _ vs = ρ
            have e2 : ρ (.tmp 2) = .pointer (some ⟨gd, 0, none⟩) := by rw [← hρ]; kernel_rfl
            clear hρ hV
            refine runs_val (v := .pointer (some ⟨gd, 1, none⟩)) (w' := w) ?_ ⟨Below.refl _ _, rfl⟩
            go_simp <;> (first | exact IntWalk.u64_in _ (by omega) | exact IntWalk.u32_in _ (by omega) | exact IntWalk.u16_in _ (by omega) | exact IntWalk.u8_in _ (by omega) | exact IntWalk.i64_in _ (by omega) | skip)
          case r1_2o7 =>
            intro vs w hb hV
            rw [if_pos (by kernel_rfl)]
            generalize hρ : rho _ _ _ vs = ρ
            have d11 : (vs 6) = .pointer (some ⟨gd, 1, none⟩) := hV 6 (by kernel_rfl)
            have e11 : ρ (.tmp 11) = vs 6 := by rw [← hρ]; kernel_rfl
            rw [d11] at e11; clear d11
            clear hρ hV
            have c0 := blk_cell (HA.out w hb) 1
            refine runs_val (v := .int .u16 sq) (w' := w) ?_ ⟨Below.refl _ _, rfl⟩
            go_simp
          case r1_2o8 =>
            intro vs w hb hV
            rw [if_pos (by kernel_rfl)]
            generalize hρ : rho _ _ _ vs = ρ
            have e3 : ρ (.tmp 3) = .pointer (some ⟨gd + 1, 0, none⟩) := by rw [← hρ]; kernel_rfl
            clear hρ hV
            refine runs_val (v := .pointer (some ⟨gd + 1, 1, none⟩)) (w' := w) ?_ ⟨Below.refl _ _, rfl⟩
            go_simp <;> (first | exact IntWalk.u64_in _ (by omega) | exact IntWalk.u32_in _ (by omega) | exact IntWalk.u16_in _ (by omega) | exact IntWalk.u8_in _ (by omega) | exact IntWalk.i64_in _ (by omega) | skip)
          case r1_2o9 =>
            intro vs w hb hV
            rw [if_pos (by kernel_rfl)]
            generalize hρ : rho _ _ _ vs = ρ
            have d13 : (vs 8) = .pointer (some ⟨gd + 1, 1, none⟩) := hV 8 (by kernel_rfl)
            have e13 : ρ (.tmp 13) = vs 8 := by rw [← hρ]; kernel_rfl
            rw [d13] at e13; clear d13
            clear hρ hV
            have c0 := blk_cell (HB.out w hb) 1
            refine runs_val (v := .int .u16 sq) (w' := w) ?_ ⟨Below.refl _ _, rfl⟩
            go_simp
          case r1_2o10 =>
            intro vs w hb hV
            rw [if_pos (by kernel_rfl)]
            generalize hρ : rho _ _ _ vs = ρ
            have d12 : (vs 7) = .int .u16 sq := hV 7 (by kernel_rfl)
            have e12 : ρ (.tmp 12) = vs 7 := by rw [← hρ]; kernel_rfl
            rw [d12] at e12; clear d12
            have d14 : (vs 9) = .int .u16 sq := hV 9 (by kernel_rfl)
            have e14 : ρ (.tmp 14) = vs 9 := by rw [← hρ]; kernel_rfl
            rw [d14] at e14; clear d14
            clear hρ hV
            refine runs_val (v := .bool true) (w' := w) ?_ ⟨Below.refl _ _, rfl⟩
            go_simp <;> (first | exact IntWalk.u64_in _ (by omega) | exact IntWalk.u32_in _ (by omega) | exact IntWalk.u16_in _ (by omega) | exact IntWalk.u8_in _ (by omega) | exact IntWalk.i64_in _ (by omega) | skip)
          case r1_2o11 =>
            intro vs w hb hV
            rw [if_pos (by kernel_rfl)]
            generalize hρ : rho _ _ _ vs = ρ
            have d10 : (vs 5) = .bool true := hV 5 (by kernel_rfl)
            have e10 : ρ (.tmp 10) = vs 5 := by rw [← hρ]; kernel_rfl
            rw [d10] at e10; clear d10
            have d15 : (vs 10) = .bool true := hV 10 (by kernel_rfl)
            have e15 : ρ (.tmp 15) = vs 10 := by rw [← hρ]; kernel_rfl
            rw [d15] at e15; clear d15
            have econ : ∀ v : Value, ρ (.const v) = v := fun v => by rw [← hρ]; rfl
            clear hρ hV
            refine runs_val (v := .bool true) (w' := w) ?_ ⟨Below.refl _ _, rfl⟩
            go_simp <;> (first | exact IntWalk.u64_in _ (by omega) | exact IntWalk.u32_in _ (by omega) | exact IntWalk.u16_in _ (by omega) | exact IntWalk.u8_in _ (by omega) | exact IntWalk.i64_in _ (by omega) | skip)
          case r1_2o12 =>
            intro vs w hb hV
            rw [if_pos (by kernel_rfl)]
            generalize hρ : rho _ _ _ vs = ρ
            have d16 : (vs 11) = .bool true := hV 11 (by kernel_rfl)
            have e16 : ρ (.tmp 16) = vs 11 := by rw [← hρ]; kernel_rfl
            clear hρ hV
            refine runs_val (v := vs 11) (w' := w) ?_ ⟨Below.refl _ _, d16⟩
            go_simp
          case r1_2o13 =>
            intro vs w hb hV
            rw [if_pos (by kernel_rfl)]
            generalize hρ : rho _ _ _ vs = ρ
            have e2 : ρ (.tmp 2) = .pointer (some ⟨gd, 0, none⟩) := by rw [← hρ]; kernel_rfl
            clear hρ hV
            refine runs_val (v := .pointer (some ⟨gd, 2, none⟩)) (w' := w) ?_ ⟨Below.refl _ _, rfl⟩
            go_simp <;> (first | exact IntWalk.u64_in _ (by omega) | exact IntWalk.u32_in _ (by omega) | exact IntWalk.u16_in _ (by omega) | exact IntWalk.u8_in _ (by omega) | exact IntWalk.i64_in _ (by omega) | skip)
          case r1_2o14 =>
            intro vs w hb hV
            rw [if_pos (by kernel_rfl)]
            generalize hρ : rho _ _ _ vs = ρ
            have d18 : (vs 13) = .pointer (some ⟨gd, 2, none⟩) := hV 13 (by kernel_rfl)
            have e18 : ρ (.tmp 18) = vs 13 := by rw [← hρ]; kernel_rfl
            rw [d18] at e18; clear d18
            clear hρ hV
            have c0 := blk_cell (HA.out w hb) 2
            have c1 := blk_cell (HA.out w hb) 3
            refine runs_val (v := .agg #[.int .u16 nx, .int .u32 bt]) (w' := w) ?_ ⟨Below.refl _ _, rfl⟩
            go_simp
          case r1_2o15 =>
            intro vs w hb hV
            rw [if_pos (by kernel_rfl)]
            generalize hρ : rho _ _ _ vs = ρ
            have e3 : ρ (.tmp 3) = .pointer (some ⟨gd + 1, 0, none⟩) := by rw [← hρ]; kernel_rfl
            clear hρ hV
            refine runs_val (v := .pointer (some ⟨gd + 1, 2, none⟩)) (w' := w) ?_ ⟨Below.refl _ _, rfl⟩
            go_simp <;> (first | exact IntWalk.u64_in _ (by omega) | exact IntWalk.u32_in _ (by omega) | exact IntWalk.u16_in _ (by omega) | exact IntWalk.u8_in _ (by omega) | exact IntWalk.i64_in _ (by omega) | skip)
          case r1_2o16 =>
            intro vs w hb hV
            rw [if_pos (by kernel_rfl)]
            generalize hρ : rho _ _ _ vs = ρ
            have d20 : (vs 15) = .pointer (some ⟨gd + 1, 2, none⟩) := hV 15 (by kernel_rfl)
            have e20 : ρ (.tmp 20) = vs 15 := by rw [← hρ]; kernel_rfl
            rw [d20] at e20; clear d20
            clear hρ hV
            have c0 := blk_cell (HB.out w hb) 2
            have c1 := blk_cell (HB.out w hb) 3
            refine runs_val (v := .agg #[.int .u16 nx, .int .u32 bt]) (w' := w) ?_ ⟨Below.refl _ _, rfl⟩
            go_simp
          case r1_2o17 =>
            intro vs w hb hV
            rw [if_pos (by kernel_rfl)]
            generalize hρ : rho _ _ _ vs = ρ
            have d19 : (vs 14) = .agg #[.int .u16 nx, .int .u32 bt] := hV 14 (by kernel_rfl)
            have e19 : ρ (.tmp 19) = vs 14 := by rw [← hρ]; kernel_rfl
            rw [d19] at e19; clear d19
            have d21 : (vs 16) = .agg #[.int .u16 nx, .int .u32 bt] := hV 16 (by kernel_rfl)
            have e21 : ρ (.tmp 21) = vs 16 := by rw [← hρ]; kernel_rfl
            rw [d21] at e21; clear d21
            clear hρ hV
            have hh := HN.out
            refine runs_val (v := .bool true) (w' := w) ?_ ⟨Below.refl _ _, rfl⟩
            go_simp
          case r1_2o18 =>
            intro vs w hb hV
            rw [if_pos (by kernel_rfl)]
            generalize hρ : rho _ _ _ vs = ρ
            have d17 : (vs 12) = .bool true := hV 12 (by kernel_rfl)
            have e17 : ρ (.tmp 17) = vs 12 := by rw [← hρ]; kernel_rfl
            rw [d17] at e17; clear d17
            have d22 : (vs 17) = .bool true := hV 17 (by kernel_rfl)
            have e22 : ρ (.tmp 22) = vs 17 := by rw [← hρ]; kernel_rfl
            rw [d22] at e22; clear d22
            have econ : ∀ v : Value, ρ (.const v) = v := fun v => by rw [← hρ]; rfl
            clear hρ hV
            refine runs_val (v := .bool true) (w' := w) ?_ ⟨Below.refl _ _, rfl⟩
            go_simp <;> (first | exact IntWalk.u64_in _ (by omega) | exact IntWalk.u32_in _ (by omega) | exact IntWalk.u16_in _ (by omega) | exact IntWalk.u8_in _ (by omega) | exact IntWalk.i64_in _ (by omega) | skip)
          case r1_2o19 =>
            intro vs w hb hV
            rw [if_pos (by kernel_rfl)]
            generalize hρ : rho _ _ _ vs = ρ
            have d23 : (vs 18) = .bool true := hV 18 (by kernel_rfl)
            have e23 : ρ (.tmp 23) = vs 18 := by rw [← hρ]; kernel_rfl
            clear hρ hV
            refine runs_val (v := vs 18) (w' := w) ?_ ⟨Below.refl _ _, d23⟩
            go_simp
          case r1_2o20 =>
            intro vs w hb hV
            rw [if_pos (by kernel_rfl)]
            generalize hρ : rho _ _ _ vs = ρ
            have e2 : ρ (.tmp 2) = .pointer (some ⟨gd, 0, none⟩) := by rw [← hρ]; kernel_rfl
            clear hρ hV
            exact runs_load 72 (.tmp 2) rfl gd e2 72 #[.int .u16 ep, .int .u16 sq, .int .u16 nx, .int .u32 bt, .bool fi, .bool la, .bool al, .slice A n c] (0, 0) _ (HA.out w hb) Try.underlying72 rfl (frame_info _ _ _ _ _ _ _ _) ⟨Below.refl _ _, rfl⟩
          case r1_2o21 =>
            intro vs w hb hV
            rw [if_pos (by kernel_rfl)]
            generalize hρ : rho _ _ _ vs = ρ
            have d25 : (vs 20) = .agg #[.int .u16 ep, .int .u16 sq, .int .u16 nx, .int .u32 bt, .bool fi, .bool la, .bool al, .slice A n c] := hV 20 (by kernel_rfl)
            have e25 : ρ (.tmp 25) = vs 20 := by rw [← hρ]; kernel_rfl
            rw [d25] at e25; clear d25
            have ef60 : ρ (.func 60) = .func (.func 60) #[] #[] := by rw [← hρ]; rfl
            clear hρ hV
            refine runs_call (f := 60) (args := #[.agg #[.int .u16 ep, .int .u16 sq, .int .u16 nx, .int .u32 bt, .bool fi, .bool la, .bool al, .slice A n c]]) (w' := w) ?_ ?_
            · go_simp
            · refine (KF.out w (HBW.out w hb)).mono ?_
              rintro e w5 ⟨rfl, hb5⟩
              exact ⟨_, rfl, hb5, rfl⟩
          case r1_2o22 =>
            intro vs w hb hV
            rw [if_pos (by kernel_rfl)]
            generalize hρ : rho _ _ _ vs = ρ
            have e3 : ρ (.tmp 3) = .pointer (some ⟨gd + 1, 0, none⟩) := by rw [← hρ]; kernel_rfl
            clear hρ hV
            exact runs_load 72 (.tmp 3) rfl (gd + 1) e3 72 #[.int .u16 ep, .int .u16 sq, .int .u16 nx, .int .u32 bt, .bool fi', .bool la', .bool al', .slice A' n' c'] (0, 0) _ (HB.out w hb) Try.underlying72 rfl (frame_info _ _ _ _ _ _ _ _) ⟨Below.refl _ _, rfl⟩
          case r1_2o23 =>
            intro vs w hb hV
            rw [if_pos (by kernel_rfl)]
            generalize hρ : rho _ _ _ vs = ρ
            have d27 : (vs 22) = .agg #[.int .u16 ep, .int .u16 sq, .int .u16 nx, .int .u32 bt, .bool fi', .bool la', .bool al', .slice A' n' c'] := hV 22 (by kernel_rfl)
            have e27 : ρ (.tmp 27) = vs 22 := by rw [← hρ]; kernel_rfl
            rw [d27] at e27; clear d27
            have ef60 : ρ (.func 60) = .func (.func 60) #[] #[] := by rw [← hρ]; rfl
            clear hρ hV
            refine runs_call (f := 60) (args := #[.agg #[.int .u16 ep, .int .u16 sq, .int .u16 nx, .int .u32 bt, .bool fi', .bool la', .bool al', .slice A' n' c']]) (w' := w) ?_ ?_
            · go_simp
            · refine (KG.out w (HBW.out w hb)).mono ?_
              rintro e w5 ⟨rfl, hb5⟩
              exact ⟨_, rfl, hb5, rfl⟩
          case r1_2o24 =>
            intro vs w hb hV
            rw [if_pos (by kernel_rfl)]
            generalize hρ : rho _ _ _ vs = ρ
            have d26 : (vs 21) = .int .u8 fl := hV 21 (by kernel_rfl)
            have e26 : ρ (.tmp 26) = vs 21 := by rw [← hρ]; kernel_rfl
            rw [d26] at e26; clear d26
            have d28 : (vs 23) = .int .u8 fl' := hV 23 (by kernel_rfl)
            have e28 : ρ (.tmp 28) = vs 23 := by rw [← hρ]; kernel_rfl
            rw [d28] at e28; clear d28
            clear hρ hV
            have hh := HN.out
            refine runs_val (v := .bool false) (w' := w) ?_ ⟨Below.refl _ _, rfl⟩
            go_simp
          case r1_2o25 =>
            intro vs w hb hV
            rw [if_pos (by kernel_rfl)]
            generalize hρ : rho _ _ _ vs = ρ
            have d24 : (vs 19) = .bool true := hV 19 (by kernel_rfl)
            have e24 : ρ (.tmp 24) = vs 19 := by rw [← hρ]; kernel_rfl
            rw [d24] at e24; clear d24
            have d29 : (vs 24) = .bool false := hV 24 (by kernel_rfl)
            have e29 : ρ (.tmp 29) = vs 24 := by rw [← hρ]; kernel_rfl
            rw [d29] at e29; clear d29
            have econ : ∀ v : Value, ρ (.const v) = v := fun v => by rw [← hρ]; rfl
            clear hρ hV
            refine runs_val (v := .bool false) (w' := w) ?_ ⟨Below.refl _ _, rfl⟩
            go_simp <;> (first | exact IntWalk.u64_in _ (by omega) | exact IntWalk.u32_in _ (by omega) | exact IntWalk.u16_in _ (by omega) | exact IntWalk.u8_in _ (by omega) | exact IntWalk.i64_in _ (by omega) | skip)
          case r1_2o26 =>
            intro vs w hb hV
            rw [if_pos (by kernel_rfl)]
            generalize hρ : rho _ _ _ vs = ρ
            have d30 : (vs 25) = .bool false := hV 25 (by kernel_rfl)
            have e30 : ρ (.tmp 30) = vs 25 := by rw [← hρ]; kernel_rfl
            clear hρ hV
            refine runs_val (v := vs 25) (w' := w) ?_ ⟨Below.refl _ _, d30⟩
            go_simp
          case r1_2o27 =>
            intro vs w hb hV
            (rw [if_neg (by decide)]) <;> exact rfl
          case r1_2o28 =>
            intro vs w hb hV
            (rw [if_neg (by decide)]) <;> exact rfl
          case r1_2o29 =>
            intro vs w hb hV
            (rw [if_neg (by decide)]) <;> exact rfl
          case r1_2o30 =>
            intro vs w hb hV
            (rw [if_neg (by decide)]) <;> exact rfl
          case r1_2o31 =>
            intro vs w hb hV
            (rw [if_neg (by decide)]) <;> exact rfl
          case r1_2o32 =>
            intro vs w hb hV
            rw [if_pos (by kernel_rfl)]
            generalize hρ : rho _ _ _ vs = ρ
            have d31 : (vs 26) = .bool false := hV 26 (by kernel_rfl)
            have e31 : ρ (.tmp 31) = vs 26 := by rw [← hρ]; kernel_rfl
            rw [d31] at e31; clear d31
            have d36 : (vs 31) = undef := hV 31 (by kernel_rfl)
            have e36 : ρ (.tmp 36) = vs 31 := by rw [← hρ]; kernel_rfl
            rw [d36] at e36; clear d36
            have econ : ∀ v : Value, ρ (.const v) = v := fun v => by rw [← hρ]; rfl
            clear hρ hV
            refine runs_val (v := .bool false) (w' := w) ?_ ⟨Below.refl _ _, rfl⟩
            go_simp <;> (first | exact IntWalk.u64_in _ (by omega) | exact IntWalk.u32_in _ (by omega) | exact IntWalk.u16_in _ (by omega) | exact IntWalk.u8_in _ (by omega) | exact IntWalk.i64_in _ (by omega) | skip)
          case r1_2o33 =>
            intro vs w hb hV
            rw [if_pos (by kernel_rfl)]
            generalize hρ : rho _ _ _ vs = ρ
            have d37 : (vs 32) = .bool false := hV 32 (by kernel_rfl)
            have e37 : ρ (.tmp 37) = vs 32 := by rw [← hρ]; kernel_rfl
            clear hρ hV
            refine runs_val (v := vs 32) (w' := w) ?_ ⟨Below.refl _ _, d37⟩
            go_simp
          case r1_2e =>
            intro vs W2 hb2 hV
            have d5 : (vs 0) = .pointer (some ⟨gd, 0, none⟩) := hV 0 (Nat.le_of_ble_eq_true rfl)
            have d6 : (vs 1) = .int .u16 ep := hV 1 (Nat.le_of_ble_eq_true rfl)
            have d7 : (vs 2) = .pointer (some ⟨gd + 1, 0, none⟩) := hV 2 (Nat.le_of_ble_eq_true rfl)
            have d8 : (vs 3) = .int .u16 ep := hV 3 (Nat.le_of_ble_eq_true rfl)
            have d9 : (vs 4) = .bool true := hV 4 (Nat.le_of_ble_eq_true rfl)
            have d10 : (vs 5) = .bool true := hV 5 (Nat.le_of_ble_eq_true rfl)
            have d11 : (vs 6) = .pointer (some ⟨gd, 1, none⟩) := hV 6 (Nat.le_of_ble_eq_true rfl)
            have d12 : (vs 7) = .int .u16 sq := hV 7 (Nat.le_of_ble_eq_true rfl)
            have d13 : (vs 8) = .pointer (some ⟨gd + 1, 1, none⟩) := hV 8 (Nat.le_of_ble_eq_true rfl)
            have d14 : (vs 9) = .int .u16 sq := hV 9 (Nat.le_of_ble_eq_true rfl)
            have d15 : (vs 10) = .bool true := hV 10 (Nat.le_of_ble_eq_true rfl)
            have d16 : (vs 11) = .bool true := hV 11 (Nat.le_of_ble_eq_true rfl)
            have d17 : (vs 12) = .bool true := hV 12 (Nat.le_of_ble_eq_true rfl)
            have d18 : (vs 13) = .pointer (some ⟨gd, 2, none⟩) := hV 13 (Nat.le_of_ble_eq_true rfl)
            have d19 : (vs 14) = .agg #[.int .u16 nx, .int .u32 bt] := hV 14 (Nat.le_of_ble_eq_true rfl)
            have d20 : (vs 15) = .pointer (some ⟨gd + 1, 2, none⟩) := hV 15 (Nat.le_of_ble_eq_true rfl)
            have d21 : (vs 16) = .agg #[.int .u16 nx, .int .u32 bt] := hV 16 (Nat.le_of_ble_eq_true rfl)
            have d22 : (vs 17) = .bool true := hV 17 (Nat.le_of_ble_eq_true rfl)
            have d23 : (vs 18) = .bool true := hV 18 (Nat.le_of_ble_eq_true rfl)
            have d24 : (vs 19) = .bool true := hV 19 (Nat.le_of_ble_eq_true rfl)
            have d25 : (vs 20) = .agg #[.int .u16 ep, .int .u16 sq, .int .u16 nx, .int .u32 bt, .bool fi, .bool la, .bool al, .slice A n c] := hV 20 (Nat.le_of_ble_eq_true rfl)
            have d26 : (vs 21) = .int .u8 fl := hV 21 (Nat.le_of_ble_eq_true rfl)
            have d27 : (vs 22) = .agg #[.int .u16 ep, .int .u16 sq, .int .u16 nx, .int .u32 bt, .bool fi', .bool la', .bool al', .slice A' n' c'] := hV 22 (Nat.le_of_ble_eq_true rfl)
            have d28 : (vs 23) = .int .u8 fl' := hV 23 (Nat.le_of_ble_eq_true rfl)
            have d29 : (vs 24) = .bool false := hV 24 (Nat.le_of_ble_eq_true rfl)
            have d30 : (vs 25) = .bool false := hV 25 (Nat.le_of_ble_eq_true rfl)
            have d31 : (vs 26) = .bool false := hV 26 (Nat.le_of_ble_eq_true rfl)
            have d32 : (vs 27) = undef := hV 27 (Nat.le_of_ble_eq_true rfl)
            have d33 : (vs 28) = undef := hV 28 (Nat.le_of_ble_eq_true rfl)
            have d34 : (vs 29) = undef := hV 29 (Nat.le_of_ble_eq_true rfl)
            have d35 : (vs 30) = undef := hV 30 (Nat.le_of_ble_eq_true rfl)
            have d36 : (vs 31) = undef := hV 31 (Nat.le_of_ble_eq_true rfl)
            have d37 : (vs 32) = .bool false := hV 32 (Nat.le_of_ble_eq_true rfl)
            have d4 : (vs 33) = .bool false := hV 33 (Nat.le_of_ble_eq_true rfl)
            clear hV
            simp only [putAll]
            rw [d5, d6, d7, d8, d9, d10, d11, d12, d13, d14, d15, d16, d17, d18, d19, d20, d21, d22, d23, d24, d25, d26, d27, d28, d29, d30, d31, d32, d33, d34, d35, d36, d37, d4]
            clear d5 d6 d7 d8 d9 d10 d11 d12 d13 d14 d15 d16 d17 d18 d19 d20 d21 d22 d23 d24 d25 d26 d27 d28 d29 d30 d31 d32 d33 d34 d35 d36 d37 d4
            clear vs
            simp only [Act.put, List.setIfInBounds_toArray, List.set_cons_zero, List.set_cons_succ]
            have HV : Aside0 (β = false) := ⟨by rw [Bool.eq_false_iff]; intro e; exact HN.out (HFL.out.2 (HBE.out.1 e).2.2.2.2.1)⟩
            go_wp2_with fail
            go_ret
            rw [HGD.out, HV.out]
            exact ⟨rfl, HBW.out _ hb2⟩
      · have HN := Aside0.mk e2
        refine region_grown (W := W)
          [fun (w : World) (v : Value) => v = .pointer (some ⟨gd, 0, none⟩),
           fun (w : World) (v : Value) => v = .int .u16 ep,
           fun (w : World) (v : Value) => v = .pointer (some ⟨gd + 1, 0, none⟩),
           fun (w : World) (v : Value) => v = .int .u16 ep,
           fun (w : World) (v : Value) => v = .bool true,
           fun (w : World) (v : Value) => v = .bool true,
           fun (w : World) (v : Value) => v = .pointer (some ⟨gd, 1, none⟩),
           fun (w : World) (v : Value) => v = .int .u16 sq,
           fun (w : World) (v : Value) => v = .pointer (some ⟨gd + 1, 1, none⟩),
           fun (w : World) (v : Value) => v = .int .u16 sq,
           fun (w : World) (v : Value) => v = .bool true,
           fun (w : World) (v : Value) => v = .bool true,
           fun (w : World) (v : Value) => v = .bool true,
           fun (w : World) (v : Value) => v = .pointer (some ⟨gd, 2, none⟩),
           fun (w : World) (v : Value) => v = .agg #[.int .u16 nx, .int .u32 bt],
           fun (w : World) (v : Value) => v = .pointer (some ⟨gd + 1, 2, none⟩),
           fun (w : World) (v : Value) => v = .agg #[.int .u16 nx', .int .u32 bt'],
           fun (w : World) (v : Value) => v = .bool false,
           fun (w : World) (v : Value) => v = .bool false,
           fun (w : World) (v : Value) => v = .bool false,
           fun (w : World) (v : Value) => v = undef,
           fun (w : World) (v : Value) => v = undef,
           fun (w : World) (v : Value) => v = undef,
           fun (w : World) (v : Value) => v = undef,
           fun (w : World) (v : Value) => v = undef,
           fun (w : World) (v : Value) => v = .bool false,
           fun (w : World) (v : Value) => v = .bool false,
           fun (w : World) (v : Value) => v = undef,
           fun (w : World) (v : Value) => v = undef,
           fun (w : World) (v : Value) => v = undef,
           fun (w : World) (v : Value) => v = undef,
           fun (w : World) (v : Value) => v = undef,
           fun (w : World) (v : Value) => v = .bool false,
           fun (w : World) (v : Value) => v = .bool false]
          (fun j => if j = 5 then some true else if j = 12 then some true else if j = 19 then some false else if j = 26 then some false else none)
          [(0, some 5), (1, some 6), (2, some 7), (3, some 8), (4, some 9), (5, some 10), (6, some 11), (7, some 12), (8, some 13), (9, some 14), (10, some 15), (11, some 16), (12, some 17), (13, some 18), (14, some 19), (15, some 20), (16, some 21), (17, some 22), (18, some 23), (19, some 24), (20, some 25), (21, some 26), (22, some 27), (23, some 28), (24, some 29), (25, some 30), (26, some 31), (27, some 32), (28, some 33), (29, some 34), (30, some 35), (31, some 36), (32, some 37), (33, some 4)]
          [5, 12, 19, 26]
          (by kernel_rfl) (by kernel_rfl) (by kernel_rfl) (by kernel_rfl) ?r1_3g ?r1_3s ⟨?r1_3o0, ?r1_3o1, ?r1_3o2, ?r1_3o3, ?r1_3o4, ?r1_3o5, ?r1_3o6, ?r1_3o7, ?r1_3o8, ?r1_3o9, ?r1_3o10, ?r1_3o11, ?r1_3o12, ?r1_3o13, ?r1_3o14, ?r1_3o15, ?r1_3o16, ?r1_3o17, ?r1_3o18, ?r1_3o19, ?r1_3o20, ?r1_3o21, ?r1_3o22, ?r1_3o23, ?r1_3o24, ?r1_3o25, ?r1_3o26, ?r1_3o27, ?r1_3o28, ?r1_3o29, ?r1_3o30, ?r1_3o31, ?r1_3o32, ?r1_3o33, trivial⟩ ?r1_3e
        case r1_3g =>
          intro j hj w v hv
          simp only [List.mem_cons, List.not_mem_nil, or_false] at hj
          rcases hj with rfl | rfl | rfl | rfl
          · have hv' : v = .bool true := hv; rw [hv']; rfl
          · have hv' : v = .bool true := hv; rw [hv']; rfl
          · have hv' : v = .bool false := hv; rw [hv']; rfl
          · have hv' : v = .bool false := hv; rw [hv']; rfl
        case r1_3s =>
          refine ⟨(fun w w' v hb h => h), (fun w w' v hb h => h), (fun w w' v hb h => h), (fun w w' v hb h => h), (fun w w' v hb h => h), (fun w w' v hb h => h), (fun w w' v hb h => h), (fun w w' v hb h => h), (fun w w' v hb h => h), (fun w w' v hb h => h), (fun w w' v hb h => h), (fun w w' v hb h => h), (fun w w' v hb h => h), (fun w w' v hb h => h), (fun w w' v hb h => h), (fun w w' v hb h => h), (fun w w' v hb h => h), (fun w w' v hb h => h), (fun w w' v hb h => h), (fun w w' v hb h => h), (fun w w' v hb h => h), (fun w w' v hb h => h), (fun w w' v hb h => h), (fun w w' v hb h => h), (fun w w' v hb h => h), (fun w w' v hb h => h), (fun w w' v hb h => h), (fun w w' v hb h => h), (fun w w' v hb h => h), (fun w w' v hb h => h), (fun w w' v hb h => h), (fun w w' v hb h => h), (fun w w' v hb h => h), (fun w w' v hb h => h), trivial⟩
        case r1_3o0 =>
          intro vs w hb hV
          rw [if_pos (by kernel_rfl)]
          generalize hρ : rho _ _ _ vs = ρ
          have e2 : ρ (.tmp 2) = .pointer (some ⟨gd, 0, none⟩) := by rw [← hρ]; kernel_rfl
          clear hρ hV
          refine runs_val (v := .pointer (some ⟨gd, 0, none⟩)) (w' := w) ?_ ⟨Below.refl _ _, rfl⟩
          go_simp <;> (first | exact IntWalk.u64_in _ (by omega) | exact IntWalk.u32_in _ (by omega) | exact IntWalk.u16_in _ (by omega) | exact IntWalk.u8_in _ (by omega) | exact IntWalk.i64_in _ (by omega) | skip)
        case r1_3o1 =>
          intro vs w hb hV
          rw [if_pos (by kernel_rfl)]
          generalize hρ : rho _ _ _ vs = ρ
          have d5 : (vs 0) = .pointer (some ⟨gd, 0, none⟩) := hV 0 (by kernel_rfl)
          have e5 : ρ (.tmp 5) = vs 0 := by rw [← hρ]; kernel_rfl
          rw [d5] at e5; clear d5
          clear hρ hV
          have c0 := blk_cell (HA.out w hb) 0
          refine runs_val (v := .int .u16 ep) (w' := w) ?_ ⟨Below.refl _ _, rfl⟩
          go_simp
        case r1_3o2 =>
          intro vs w hb hV
          rw [if_pos (by kernel_rfl)]
          generalize hρ : rho _ _ _ vs = ρ
          have e3 : ρ (.tmp 3) = .pointer (some ⟨gd + 1, 0, none⟩) := by rw [← hρ]; kernel_rfl
          clear hρ hV
          refine runs_val (v := .pointer (some ⟨gd + 1, 0, none⟩)) (w' := w) ?_ ⟨Below.refl _ _, rfl⟩
          go_simp <;> (first | exact IntWalk.u64_in _ (by omega) | exact IntWalk.u32_in _ (by omega) | exact IntWalk.u16_in _ (by omega) | exact IntWalk.u8_in _ (by omega) | exact IntWalk.i64_in _ (by omega) | skip)
        case r1_3o3 =>
          intro vs w hb hV
          rw [if_pos (by kernel_rfl)]
          generalize hρ : rho _ _ _ vs = ρ
          have d7 : (vs 2) = .pointer (some ⟨gd + 1, 0, none⟩) := hV 2 (by kernel_rfl)
          have e7 : ρ (.tmp 7) = vs 2 := by rw [← hρ]; kernel_rfl
          rw [d7] at e7; clear d7
          clear hρ hV
          have c0 := blk_cell (HB.out w hb) 0
          refine runs_val (v := .int .u16 ep) (w' := w) ?_ ⟨Below.refl _ _, rfl⟩
          go_simp
        case r1_3o4 =>
          intro vs w hb hV
          rw [if_pos (by kernel_rfl)]
          generalize hρ : rho _ _ _ vs = ρ
          have d6 : (vs 1) = .int .u16 ep := hV 1 (by kernel_rfl)
          have e6 : ρ (.tmp 6) = vs 1 := by rw [← hρ]; kernel_rfl
          rw [d6] at e6; clear d6
          have d8 : (vs 3) = .int .u16 ep := hV 3 (by kernel_rfl)
          have e8 : ρ (.tmp 8) = vs 3 := by rw [← hρ]; kernel_rfl
          rw [d8] at e8; clear d8
          clear hρ hV
          refine runs_val (v := .bool true) (w' := w) ?_ ⟨Below.refl _ _, rfl⟩
          go_simp <;> (first | exact IntWalk.u64_in _ (by omega) | exact IntWalk.u32_in _ (by omega) | exact IntWalk.u16_in _ (by omega) | exact IntWalk.u8_in _ (by omega) | exact IntWalk.i64_in _ (by omega) | skip)
        case r1_3o5 =>
          intro vs w hb hV
          rw [if_pos (by kernel_rfl)]
          generalize hρ : rho _ _ _ vs = ρ
          have d9 : (vs 4) = .bool true := hV 4 (by kernel_rfl)
          have e9 : ρ (.tmp 9) = vs 4 := by rw [← hρ]; kernel_rfl
          clear hρ hV
          refine runs_val (v := vs 4) (w' := w) ?_ ⟨Below.refl _ _, d9⟩
          go_simp
        case r1_3o6 =>
          intro vs w hb hV
          rw [if_pos (by kernel_rfl)]
          generalize hρ : rho _ _ _ vs = ρ
          have e2 : ρ (.tmp 2) = .pointer (some ⟨gd, 0, none⟩) := by rw [← hρ]; kernel_rfl
          clear hρ hV
          refine runs_val (v := .pointer (some ⟨gd, 1, none⟩)) (w' := w) ?_ ⟨Below.refl _ _, rfl⟩
          go_simp <;> (first | exact IntWalk.u64_in _ (by omega) | exact IntWalk.u32_in _ (by omega) | exact IntWalk.u16_in _ (by omega) | exact IntWalk.u8_in _ (by omega) | exact IntWalk.i64_in _ (by omega) | skip)
        case r1_3o7 =>
          intro vs w hb hV
          rw [if_pos (by kernel_rfl)]
          generalize hρ : rho _ _ _ vs = ρ
          have d11 : (vs 6) = .pointer (some ⟨gd, 1, none⟩) := hV 6 (by kernel_rfl)
          have e11 : ρ (.tmp 11) = vs 6 := by rw [← hρ]; kernel_rfl
          rw [d11] at e11; clear d11
          clear hρ hV
          have c0 := blk_cell (HA.out w hb) 1
          refine runs_val (v := .int .u16 sq) (w' := w) ?_ ⟨Below.refl _ _, rfl⟩
          go_simp
        case r1_3o8 =>
          intro vs w hb hV
          rw [if_pos (by kernel_rfl)]
          generalize hρ : rho _ _ _ vs = ρ
          have e3 : ρ (.tmp 3) = .pointer (some ⟨gd + 1, 0, none⟩) := by rw [← hρ]; kernel_rfl
          clear hρ hV
          refine runs_val (v := .pointer (some ⟨gd + 1, 1, none⟩)) (w' := w) ?_ ⟨Below.refl _ _, rfl⟩
          go_simp <;> (first | exact IntWalk.u64_in _ (by omega) | exact IntWalk.u32_in _ (by omega) | exact IntWalk.u16_in _ (by omega) | exact IntWalk.u8_in _ (by omega) | exact IntWalk.i64_in _ (by omega) | skip)
        case r1_3o9 =>
          intro vs w hb hV
          rw [if_pos (by kernel_rfl)]
          generalize hρ : rho _ _ _ vs = ρ
          have d13 : (vs 8) = .pointer (some ⟨gd + 1, 1, none⟩) := hV 8 (by kernel_rfl)
          have e13 : ρ (.tmp 13) = vs 8 := by rw [← hρ]; kernel_rfl
          rw [d13] at e13; clear d13
          clear hρ hV
          have c0 := blk_cell (HB.out w hb) 1
          refine runs_val (v := .int .u16 sq) (w' := w) ?_ ⟨Below.refl _ _, rfl⟩
          go_simp
        case r1_3o10 =>
          intro vs w hb hV
          rw [if_pos (by kernel_rfl)]
          generalize hρ : rho _ _ _ vs = ρ
          have d12 : (vs 7) = .int .u16 sq := hV 7 (by kernel_rfl)
          have e12 : ρ (.tmp 12) = vs 7 := by rw [← hρ]; kernel_rfl
          rw [d12] at e12; clear d12
          have d14 : (vs 9) = .int .u16 sq := hV 9 (by kernel_rfl)
          have e14 : ρ (.tmp 14) = vs 9 := by rw [← hρ]; kernel_rfl
          rw [d14] at e14; clear d14
          clear hρ hV
          refine runs_val (v := .bool true) (w' := w) ?_ ⟨Below.refl _ _, rfl⟩
          go_simp <;> (first | exact IntWalk.u64_in _ (by omega) | exact IntWalk.u32_in _ (by omega) | exact IntWalk.u16_in _ (by omega) | exact IntWalk.u8_in _ (by omega) | exact IntWalk.i64_in _ (by omega) | skip)
        case r1_3o11 =>
          intro vs w hb hV
          rw [if_pos (by kernel_rfl)]
          generalize hρ : rho _ _ _ vs = ρ
          have d10 : (vs 5) = .bool true := hV 5 (by kernel_rfl)
          have e10 : ρ (.tmp 10) = vs 5 := by rw [← hρ]; kernel_rfl
          rw [d10] at e10; clear d10
          have d15 : (vs 10) = .bool true := hV 10 (by kernel_rfl)
          have e15 : ρ (.tmp 15) = vs 10 := by rw [← hρ]; kernel_rfl
          rw [d15] at e15; clear d15
          have econ : ∀ v : Value, ρ (.const v) = v := fun v => by rw [← hρ]; rfl
          clear hρ hV
          refine runs_val (v := .bool true) (w' := w) ?_ ⟨Below.refl _ _, rfl⟩
          go_simp <;> (first | exact IntWalk.u64_in _ (by omega) | exact IntWalk.u32_in _ (by omega) | exact IntWalk.u16_in _ (by omega) | exact IntWalk.u8_in _ (by omega) | exact IntWalk.i64_in _ (by omega) | skip)
        case r1_3o12 =>
          intro vs w hb hV
          rw [if_pos (by kernel_rfl)]
          generalize hρ : rho _ _ _ vs = ρ
          have d16 : (vs 11) = .bool true := hV 11 (by kernel_rfl)
          have e16 : ρ (.tmp 16) = vs 11 := by rw [← hρ]; kernel_rfl
          clear hρ hV
          refine runs_val (v := vs 11) (w' := w) ?_ ⟨Below.refl _ _, d16⟩
          go_simp
        case r1_3o13 =>
          intro vs w hb hV
          rw [if_pos (by kernel_rfl)]
          generalize hρ : rho _ _ _ vs = ρ
          have e2 : ρ (.tmp 2) = .pointer (some ⟨gd, 0, none⟩) := by rw [← hρ]; kernel_rfl
          clear hρ hV
          refine runs_val (v := .pointer (some ⟨gd, 2, none⟩)) (w' := w) ?_ ⟨Below.refl _ _, rfl⟩
          go_simp <;> (first | exact IntWalk.u64_in _ (by omega) | exact IntWalk.u32_in _ (by omega) | exact IntWalk.u16_in _ (by omega) | exact IntWalk.u8_in _ (by omega) | exact IntWalk.i64_in _ (by omega) | skip)
        case r1_3o14 =>
          intro vs w hb hV
          rw [if_pos (by kernel_rfl)]
          generalize hρ : rho _ _ _ vs = ρ
          have d18 : (vs 13) = .pointer (some ⟨gd, 2, none⟩) := hV 13 (by kernel_rfl)
          have e18 : ρ (.tmp 18) = vs 13 := by rw [← hρ]; kernel_rfl
          rw [d18] at e18; clear d18
          clear hρ hV
          have c0 := blk_cell (HA.out w hb) 2
          have c1 := blk_cell (HA.out w hb) 3
          refine runs_val (v := .agg #[.int .u16 nx, .int .u32 bt]) (w' := w) ?_ ⟨Below.refl _ _, rfl⟩
          go_simp
        case r1_3o15 =>
          intro vs w hb hV
          rw [if_pos (by kernel_rfl)]
          generalize hρ : rho _ _ _ vs = ρ
          have e3 : ρ (.tmp 3) = .pointer (some ⟨gd + 1, 0, none⟩) := by rw [← hρ]; kernel_rfl
          clear hρ hV
          refine runs_val (v := .pointer (some ⟨gd + 1, 2, none⟩)) (w' := w) ?_ ⟨Below.refl _ _, rfl⟩
          go_simp <;> (first | exact IntWalk.u64_in _ (by omega) | exact IntWalk.u32_in _ (by omega) | exact IntWalk.u16_in _ (by omega) | exact IntWalk.u8_in _ (by omega) | exact IntWalk.i64_in _ (by omega) | skip)
        case r1_3o16 =>
          intro vs w hb hV
          rw [if_pos (by kernel_rfl)]
          generalize hρ : rho _ _ _ vs = ρ
          have d20 : (vs 15) = .pointer (some ⟨gd + 1, 2, none⟩) := hV 15 (by kernel_rfl)
          have e20 : ρ (.tmp 20) = vs 15 := by rw [← hρ]; kernel_rfl
          rw [d20] at e20; clear d20
          clear hρ hV
          have c0 := blk_cell (HB.out w hb) 2
          have c1 := blk_cell (HB.out w hb) 3
          refine runs_val (v := .agg #[.int .u16 nx', .int .u32 bt']) (w' := w) ?_ ⟨Below.refl _ _, rfl⟩
          go_simp
        case r1_3o17 =>
          intro vs w hb hV
          rw [if_pos (by kernel_rfl)]
          generalize hρ : rho _ _ _ vs = ρ
          have d19 : (vs 14) = .agg #[.int .u16 nx, .int .u32 bt] := hV 14 (by kernel_rfl)
          have e19 : ρ (.tmp 19) = vs 14 := by rw [← hρ]; kernel_rfl
          rw [d19] at e19; clear d19
          have d21 : (vs 16) = .agg #[.int .u16 nx', .int .u32 bt'] := hV 16 (by kernel_rfl)
          have e21 : ρ (.tmp 21) = vs 16 := by rw [← hρ]; kernel_rfl
          rw [d21] at e21; clear d21
          clear hρ hV
          have hh := HN.out
          refine runs_val (v := .bool false) (w' := w) ?_ ⟨Below.refl _ _, rfl⟩
          go_simp
          by_cases q0 : nx = nx' <;> by_cases q1 : bt = bt' <;> first | (simp [q0, q1]; done) | exact (hh (by exact ⟨q0, q1⟩)).elim
        case r1_3o18 =>
          intro vs w hb hV
          rw [if_pos (by kernel_rfl)]
          generalize hρ : rho _ _ _ vs = ρ
          have d17 : (vs 12) = .bool true := hV 12 (by kernel_rfl)
          have e17 : ρ (.tmp 17) = vs 12 := by rw [← hρ]; kernel_rfl
          rw [d17] at e17; clear d17
          have d22 : (vs 17) = .bool false := hV 17 (by kernel_rfl)
          have e22 : ρ (.tmp 22) = vs 17 := by rw [← hρ]; kernel_rfl
          rw [d22] at e22; clear d22
          have econ : ∀ v : Value, ρ (.const v) = v := fun v => by rw [← hρ]; rfl
          clear hρ hV
          refine runs_val (v := .bool false) (w' := w) ?_ ⟨Below.refl _ _, rfl⟩
          go_simp <;> (first | exact IntWalk.u64_in _ (by omega) | exact IntWalk.u32_in _ (by omega) | exact IntWalk.u16_in _ (by omega) | exact IntWalk.u8_in _ (by omega) | exact IntWalk.i64_in _ (by omega) | skip)
        case r1_3o19 =>
          intro vs w hb hV
          rw [if_pos (by kernel_rfl)]
          generalize hρ : rho _ _ _ vs = ρ
          have d23 : (vs 18) = .bool false := hV 18 (by kernel_rfl)
          have e23 : ρ (.tmp 23) = vs 18 := by rw [← hρ]; kernel_rfl
          clear hρ hV
          refine runs_val (v := vs 18) (w' := w) ?_ ⟨Below.refl _ _, d23⟩
          go_simp
        case r1_3o20 =>
          intro vs w hb hV
          (rw [if_neg (by decide)]) <;> exact rfl
        case r1_3o21 =>
          intro vs w hb hV
          (rw [if_neg (by decide)]) <;> exact rfl
        case r1_3o22 =>
          intro vs w hb hV
          (rw [if_neg (by decide)]) <;> exact rfl
        case r1_3o23 =>
          intro vs w hb hV
          (rw [if_neg (by decide)]) <;> exact rfl
        case r1_3o24 =>
          intro vs w hb hV
          (rw [if_neg (by decide)]) <;> exact rfl
        case r1_3o25 =>
          intro vs w hb hV
          rw [if_pos (by kernel_rfl)]
          generalize hρ : rho _ _ _ vs = ρ
          have d24 : (vs 19) = .bool false := hV 19 (by kernel_rfl)
          have e24 : ρ (.tmp 24) = vs 19 := by rw [← hρ]; kernel_rfl
          rw [d24] at e24; clear d24
          have d29 : (vs 24) = undef := hV 24 (by kernel_rfl)
          have e29 : ρ (.tmp 29) = vs 24 := by rw [← hρ]; kernel_rfl
          rw [d29] at e29; clear d29
          have econ : ∀ v : Value, ρ (.const v) = v := fun v => by rw [← hρ]; rfl
          clear hρ hV
          refine runs_val (v := .bool false) (w' := w) ?_ ⟨Below.refl _ _, rfl⟩
          go_simp <;> (first | exact IntWalk.u64_in _ (by omega) | exact IntWalk.u32_in _ (by omega) | exact IntWalk.u16_in _ (by omega) | exact IntWalk.u8_in _ (by omega) | exact IntWalk.i64_in _ (by omega) | skip)
        case r1_3o26 =>
          intro vs w hb hV
          rw [if_pos (by kernel_rfl)]
          generalize hρ : rho _ _ _ vs = ρ
          have d30 : (vs 25) = .bool false := hV 25 (by kernel_rfl)
          have e30 : ρ (.tmp 30) = vs 25 := by rw [← hρ]; kernel_rfl
          clear hρ hV
          refine runs_val (v := vs 25) (w' := w) ?_ ⟨Below.refl _ _, d30⟩
          go_simp
        case r1_3o27 =>
          intro vs w hb hV
          (rw [if_neg (by decide)]) <;> exact rfl
        case r1_3o28 =>
          intro vs w hb hV
          (rw [if_neg (by decide)]) <;> exact rfl
        case r1_3o29 =>
          intro vs w hb hV
          (rw [if_neg (by decide)]) <;> exact rfl
        case r1_3o30 =>
          intro vs w hb hV
          (rw [if_neg (by decide)]) <;> exact rfl
        case r1_3o31 =>
          intro vs w hb hV
          (rw [if_neg (by decide)]) <;> exact rfl
        case r1_3o32 =>
          intro vs w hb hV
          rw [if_pos (by kernel_rfl)]
          generalize hρ : rho _ _ _ vs = ρ
          have d31 : (vs 26) = .bool false := hV 26 (by kernel_rfl)
          have e31 : ρ (.tmp 31) = vs 26 := by rw [← hρ]; kernel_rfl
          rw [d31] at e31; clear d31
          have d36 : (vs 31) = undef := hV 31 (by kernel_rfl)
          have e36 : ρ (.tmp 36) = vs 31 := by rw [← hρ]; kernel_rfl
          rw [d36] at e36; clear d36
          have econ : ∀ v : Value, ρ (.const v) = v := fun v => by rw [← hρ]; rfl
          clear hρ hV
          refine runs_val (v := .bool false) (w' := w) ?_ ⟨Below.refl _ _, rfl⟩
          go_simp <;> (first | exact IntWalk.u64_in _ (by omega) | exact IntWalk.u32_in _ (by omega) | exact IntWalk.u16_in _ (by omega) | exact IntWalk.u8_in _ (by omega) | exact IntWalk.i64_in _ (by omega) | skip)
        case r1_3o33 =>
          intro vs w hb hV
          rw [if_pos (by kernel_rfl)]
          generalize hρ : rho _ _ _ vs = ρ
          have d37 : (vs 32) = .bool false := hV 32 (by kernel_rfl)
          have e37 : ρ (.tmp 37) = vs 32 := by rw [← hρ]; kernel_rfl
          clear hρ hV
          refine runs_val (v := vs 32) (w' := w) ?_ ⟨Below.refl _ _, d37⟩
          go_simp
        case r1_3e =>
          intro vs W2 hb2 hV
          have d5 : (vs 0) = .pointer (some ⟨gd, 0, none⟩) := hV 0 (Nat.le_of_ble_eq_true rfl)
          have d6 : (vs 1) = .int .u16 ep := hV 1 (Nat.le_of_ble_eq_true rfl)
          have d7 : (vs 2) = .pointer (some ⟨gd + 1, 0, none⟩) := hV 2 (Nat.le_of_ble_eq_true rfl)
          have d8 : (vs 3) = .int .u16 ep := hV 3 (Nat.le_of_ble_eq_true rfl)
          have d9 : (vs 4) = .bool true := hV 4 (Nat.le_of_ble_eq_true rfl)
          have d10 : (vs 5) = .bool true := hV 5 (Nat.le_of_ble_eq_true rfl)
          have d11 : (vs 6) = .pointer (some ⟨gd, 1, none⟩) := hV 6 (Nat.le_of_ble_eq_true rfl)
          have d12 : (vs 7) = .int .u16 sq := hV 7 (Nat.le_of_ble_eq_true rfl)
          have d13 : (vs 8) = .pointer (some ⟨gd + 1, 1, none⟩) := hV 8 (Nat.le_of_ble_eq_true rfl)
          have d14 : (vs 9) = .int .u16 sq := hV 9 (Nat.le_of_ble_eq_true rfl)
          have d15 : (vs 10) = .bool true := hV 10 (Nat.le_of_ble_eq_true rfl)
          have d16 : (vs 11) = .bool true := hV 11 (Nat.le_of_ble_eq_true rfl)
          have d17 : (vs 12) = .bool true := hV 12 (Nat.le_of_ble_eq_true rfl)
          have d18 : (vs 13) = .pointer (some ⟨gd, 2, none⟩) := hV 13 (Nat.le_of_ble_eq_true rfl)
          have d19 : (vs 14) = .agg #[.int .u16 nx, .int .u32 bt] := hV 14 (Nat.le_of_ble_eq_true rfl)
          have d20 : (vs 15) = .pointer (some ⟨gd + 1, 2, none⟩) := hV 15 (Nat.le_of_ble_eq_true rfl)
          have d21 : (vs 16) = .agg #[.int .u16 nx', .int .u32 bt'] := hV 16 (Nat.le_of_ble_eq_true rfl)
          have d22 : (vs 17) = .bool false := hV 17 (Nat.le_of_ble_eq_true rfl)
          have d23 : (vs 18) = .bool false := hV 18 (Nat.le_of_ble_eq_true rfl)
          have d24 : (vs 19) = .bool false := hV 19 (Nat.le_of_ble_eq_true rfl)
          have d25 : (vs 20) = undef := hV 20 (Nat.le_of_ble_eq_true rfl)
          have d26 : (vs 21) = undef := hV 21 (Nat.le_of_ble_eq_true rfl)
          have d27 : (vs 22) = undef := hV 22 (Nat.le_of_ble_eq_true rfl)
          have d28 : (vs 23) = undef := hV 23 (Nat.le_of_ble_eq_true rfl)
          have d29 : (vs 24) = undef := hV 24 (Nat.le_of_ble_eq_true rfl)
          have d30 : (vs 25) = .bool false := hV 25 (Nat.le_of_ble_eq_true rfl)
          have d31 : (vs 26) = .bool false := hV 26 (Nat.le_of_ble_eq_true rfl)
          have d32 : (vs 27) = undef := hV 27 (Nat.le_of_ble_eq_true rfl)
          have d33 : (vs 28) = undef := hV 28 (Nat.le_of_ble_eq_true rfl)
          have d34 : (vs 29) = undef := hV 29 (Nat.le_of_ble_eq_true rfl)
          have d35 : (vs 30) = undef := hV 30 (Nat.le_of_ble_eq_true rfl)
          have d36 : (vs 31) = undef := hV 31 (Nat.le_of_ble_eq_true rfl)
          have d37 : (vs 32) = .bool false := hV 32 (Nat.le_of_ble_eq_true rfl)
          have d4 : (vs 33) = .bool false := hV 33 (Nat.le_of_ble_eq_true rfl)
          clear hV
          simp only [putAll]
          rw [d5, d6, d7, d8, d9, d10, d11, d12, d13, d14, d15, d16, d17, d18, d19, d20, d21, d22, d23, d24, d25, d26, d27, d28, d29, d30, d31, d32, d33, d34, d35, d36, d37, d4]
          clear d5 d6 d7 d8 d9 d10 d11 d12 d13 d14 d15 d16 d17 d18 d19 d20 d21 d22 d23 d24 d25 d26 d27 d28 d29 d30 d31 d32 d33 d34 d35 d36 d37 d4
          clear vs
          simp only [Act.put, List.setIfInBounds_toArray, List.set_cons_zero, List.set_cons_succ]
          have HV : Aside0 (β = false) := ⟨by rw [Bool.eq_false_iff]; intro e; exact HN.out (⟨(HBE.out.1 e).2.2.1, (HBE.out.1 e).2.2.2.1⟩)⟩
          go_wp2_with fail
          go_ret
          rw [HGD.out, HV.out]
          exact ⟨rfl, HBW.out _ hb2⟩
    · have HN := Aside0.mk e1
      refine region_grown (W := W)
        [fun (w : World) (v : Value) => v = .pointer (some ⟨gd, 0, none⟩),
         fun (w : World) (v : Value) => v = .int .u16 ep,
         fun (w : World) (v : Value) => v = .pointer (some ⟨gd + 1, 0, none⟩),
         fun (w : World) (v : Value) => v = .int .u16 ep,
         fun (w : World) (v : Value) => v = .bool true,
         fun (w : World) (v : Value) => v = .bool true,
         fun (w : World) (v : Value) => v = .pointer (some ⟨gd, 1, none⟩),
         fun (w : World) (v : Value) => v = .int .u16 sq,
         fun (w : World) (v : Value) => v = .pointer (some ⟨gd + 1, 1, none⟩),
         fun (w : World) (v : Value) => v = .int .u16 sq',
         fun (w : World) (v : Value) => v = .bool false,
         fun (w : World) (v : Value) => v = .bool false,
         fun (w : World) (v : Value) => v = .bool false,
         fun (w : World) (v : Value) => v = undef,
         fun (w : World) (v : Value) => v = undef,
         fun (w : World) (v : Value) => v = undef,
         fun (w : World) (v : Value) => v = undef,
         fun (w : World) (v : Value) => v = undef,
         fun (w : World) (v : Value) => v = .bool false,
         fun (w : World) (v : Value) => v = .bool false,
         fun (w : World) (v : Value) => v = undef,
         fun (w : World) (v : Value) => v = undef,
         fun (w : World) (v : Value) => v = undef,
         fun (w : World) (v : Value) => v = undef,
         fun (w : World) (v : Value) => v = undef,
         fun (w : World) (v : Value) => v = .bool false,
         fun (w : World) (v : Value) => v = .bool false,
         fun (w : World) (v : Value) => v = undef,
         fun (w : World) (v : Value) => v = undef,
         fun (w : World) (v : Value) => v = undef,
         fun (w : World) (v : Value) => v = undef,
         fun (w : World) (v : Value) => v = undef,
         fun (w : World) (v : Value) => v = .bool false,
         fun (w : World) (v : Value) => v = .bool false]
        (fun j => if j = 5 then some true else if j = 12 then some false else if j = 19 then some false else if j = 26 then some false else none)
        [(0, some 5), (1, some 6), (2, some 7), (3, some 8), (4, some 9), (5, some 10), (6, some 11), (7, some 12), (8, some 13), (9, some 14), (10, some 15), (11, some 16), (12, some 17), (13, some 18), (14, some 19), (15, some 20), (16, some 21), (17, some 22), (18, some 23), (19, some 24), (20, some 25), (21, some 26), (22, some 27), (23, some 28), (24, some 29), (25, some 30), (26, some 31), (27, some 32), (28, some 33), (29, some 34), (30, some 35), (31, some 36), (32, some 37), (33, some 4)]
        [5, 12, 19, 26]
        (by kernel_rfl) (by kernel_rfl) (by kernel_rfl) (by kernel_rfl) ?r1_4g ?r1_4s ⟨?r1_4o0, ?r1_4o1, ?r1_4o2, ?r1_4o3, ?r1_4o4, ?r1_4o5, ?r1_4o6, ?r1_4o7, ?r1_4o8, ?r1_4o9, ?r1_4o10, ?r1_4o11, ?r1_4o12, ?r1_4o13, ?r1_4o14, ?r1_4o15, ?r1_4o16, ?r1_4o17, ?r1_4o18, ?r1_4o19, ?r1_4o20, ?r1_4o21, ?r1_4o22, ?r1_4o23, ?r1_4o24, ?r1_4o25, ?r1_4o26, ?r1_4o27, ?r1_4o28, ?r1_4o29, ?r1_4o30, ?r1_4o31, ?r1_4o32, ?r1_4o33, trivial⟩ ?r1_4e
      case r1_4g =>
        intro j hj w v hv
        simp only [List.mem_cons, List.not_mem_nil, or_false] at hj
        rcases hj with rfl | rfl | rfl | rfl
        · have hv' : v = .bool true := hv; rw [hv']; rfl
        · have hv' : v = .bool false := hv; rw [hv']; rfl
        · have hv' : v = .bool false := hv; rw [hv']; rfl
        · have hv' : v = .bool false := hv; rw [hv']; rfl
      case r1_4s =>
        refine ⟨(fun w w' v hb h => h), (fun w w' v hb h => h), (fun w w' v hb h => h), (fun w w' v hb h => h), (fun w w' v hb h => h), (fun w w' v hb h => h), (fun w w' v hb h => h), (fun w w' v hb h => h), (fun w w' v hb h => h), (fun w w' v hb h => h), (fun w w' v hb h => h), (fun w w' v hb h => h), (fun w w' v hb h => h), (fun w w' v hb h => h), (fun w w' v hb h => h), (fun w w' v hb h => h), (fun w w' v hb h => h), (fun w w' v hb h => h), (fun w w' v hb h => h), (fun w w' v hb h => h), (fun w w' v hb h => h), (fun w w' v hb h => h), (fun w w' v hb h => h), (fun w w' v hb h => h), (fun w w' v hb h => h), (fun w w' v hb h => h), (fun w w' v hb h => h), (fun w w' v hb h => h), (fun w w' v hb h => h), (fun w w' v hb h => h), (fun w w' v hb h => h), (fun w w' v hb h => h), (fun w w' v hb h => h), (fun w w' v hb h => h), trivial⟩
      case r1_4o0 =>
        intro vs w hb hV
        rw [if_pos (by kernel_rfl)]
        generalize hρ : rho _ _ _ vs = ρ
        have e2 : ρ (.tmp 2) = .pointer (some ⟨gd, 0, none⟩) := by rw [← hρ]; kernel_rfl
        clear hρ hV
        refine runs_val (v := .pointer (some ⟨gd, 0, none⟩)) (w' := w) ?_ ⟨Below.refl _ _, rfl⟩
        go_simp <;> (first | exact IntWalk.u64_in _ (by omega) | exact IntWalk.u32_in _ (by omega) | exact IntWalk.u16_in _ (by omega) | exact IntWalk.u8_in _ (by omega) | exact IntWalk.i64_in _ (by omega) | skip)
      case r1_4o1 =>
        intro vs w hb hV
        rw [if_pos (by kernel_rfl)]
        generalize hρ : rho _ _ _ vs = ρ
        have d5 : (vs 0) = .pointer (some ⟨gd, 0, none⟩) := hV 0 (by kernel_rfl)
        have e5 : ρ (.tmp 5) = vs 0 := by rw [← hρ]; kernel_rfl
        rw [d5] at e5; clear d5
        clear hρ hV
        have c0 := blk_cell (HA.out w hb) 0
        refine runs_val (v := .int .u16 ep) (w' := w) ?_ ⟨Below.refl _ _, rfl⟩
        go_simp
      case r1_4o2 =>
        intro vs w hb hV
        rw [if_pos (by kernel_rfl)]
        generalize hρ : rho _ _ _ vs = ρ
        have e3 : ρ (.tmp 3) = .pointer (some ⟨gd + 1, 0, none⟩) := by rw [← hρ]; kernel_rfl
        clear hρ hV
        refine runs_val (v := .pointer (some ⟨gd + 1, 0, none⟩)) (w' := w) ?_ ⟨Below.refl _ _, rfl⟩
        go_simp <;> (first | exact IntWalk.u64_in _ (by omega) | exact IntWalk.u32_in _ (by omega) | exact IntWalk.u16_in _ (by omega) | exact IntWalk.u8_in _ (by omega) | exact IntWalk.i64_in _ (by omega) | skip)
      case r1_4o3 =>
        intro vs w hb hV
        rw [if_pos (by kernel_rfl)]
        generalize hρ : rho _ _ _ vs = ρ
        have d7 : (vs 2) = .pointer (some ⟨gd + 1, 0, none⟩) := hV 2 (by kernel_rfl)
        have e7 : ρ (.tmp 7) = vs 2 := by rw [← hρ]; kernel_rfl
        rw [d7] at e7; clear d7
        clear hρ hV
        have c0 := blk_cell (HB.out w hb) 0
        refine runs_val (v := .int .u16 ep) (w' := w) ?_ ⟨Below.refl _ _, rfl⟩
        go_simp
      case r1_4o4 =>
        intro vs w hb hV
        rw [if_pos (by kernel_rfl)]
        generalize hρ : rho _ _ _ vs = ρ
        have d6 : (vs 1) = .int .u16 ep := hV 1 (by kernel_rfl)
        have e6 : ρ (.tmp 6) = vs 1 := by rw [← hρ]; kernel_rfl
        rw [d6] at e6; clear d6
        have d8 : (vs 3) = .int .u16 ep := hV 3 (by kernel_rfl)
        have e8 : ρ (.tmp 8) = vs 3 := by rw [← hρ]; kernel_rfl
        rw [d8] at e8; clear d8
        clear hρ hV
        refine runs_val (v := .bool true) (w' := w) ?_ ⟨Below.refl _ _, rfl⟩
        go_simp <;> (first | exact IntWalk.u64_in _ (by omega) | exact IntWalk.u32_in _ (by omega) | exact IntWalk.u16_in _ (by omega) | exact IntWalk.u8_in _ (by omega) | exact IntWalk.i64_in _ (by omega) | skip)
      case r1_4o5 =>
        intro vs w hb hV
        rw [if_pos (by kernel_rfl)]
        generalize hρ : rho _ _ _ vs = ρ
        have d9 : (vs 4) = .bool true := hV 4 (by kernel_rfl)
        have e9 : ρ (.tmp 9) = vs 4 := by rw [← hρ]; kernel_rfl
        clear hρ hV
        refine runs_val (v := vs 4) (w' := w) ?_ ⟨Below.refl _ _, d9⟩
        go_simp
      case r1_4o6 =>
        intro vs w hb hV
        rw [if_pos (by kernel_rfl)]
        generalize hρ : rho _ _ _ vs = ρ
        have e2 : ρ (.tmp 2) = .pointer (some ⟨gd, 0, none⟩) := by rw [← hρ]; kernel_rfl
        clear hρ hV
        refine runs_val (v := .pointer (some ⟨gd, 1, none⟩)) (w' := w) ?_ ⟨Below.refl _ _, rfl⟩
        go_simp <;> (first | exact IntWalk.u64_in _ (by omega) | exact IntWalk.u32_in _ (by omega) | exact IntWalk.u16_in _ (by omega) | exact IntWalk.u8_in _ (by omega) | exact IntWalk.i64_in _ (by omega) | skip)
      case r1_4o7 =>
        intro vs w hb hV
        rw [if_pos (by kernel_rfl)]
        generalize hρ : rho _ _ _ vs = ρ
        have d11 : (vs 6) = .pointer (some ⟨gd, 1, none⟩) := hV 6 (by kernel_rfl)
        have e11 : ρ (.tmp 11) = vs 6 := by rw [← hρ]; kernel_rfl
        rw [d11] at e11; clear d11
        clear hρ hV
        have c0 := blk_cell (HA.out w hb) 1
        refine runs_val (v := .int .u16 sq) (w' := w) ?_ ⟨Below.refl _ _, rfl⟩
        go_simp
      case r1_4o8 =>
        intro vs w hb hV
        rw [if_pos (by kernel_rfl)]
        generalize hρ : rho _ _ _ vs = ρ
        have e3 : ρ (.tmp 3) = .pointer (some ⟨gd + 1, 0, none⟩) := by rw [← hρ]; kernel_rfl
        clear hρ hV
        refine runs_val (v := .pointer (some ⟨gd + 1, 1, none⟩)) (w' := w) ?_ ⟨Below.refl _ _, rfl⟩
        go_simp <;> (first | exact IntWalk.u64_in _ (by omega) | exact IntWalk.u32_in _ (by omega) | exact IntWalk.u16_in _ (by omega) | exact IntWalk.u8_in _ (by omega) | exact IntWalk.i64_in _ (by omega) | skip)
      case r1_4o9 =>
        intro vs w hb hV
        rw [if_pos (by kernel_rfl)]
        generalize hρ : rho _ _ _ vs = ρ
        have d13 : (vs 8) = .pointer (some ⟨gd + 1, 1, none⟩) := hV 8 (by kernel_rfl)
        have e13 : ρ (.tmp 13) = vs 8 := by rw [← hρ]; kernel_rfl
        rw [d13] at e13; clear d13
        clear hρ hV
        have c0 := blk_cell (HB.out w hb) 1
        refine runs_val (v := .int .u16 sq') (w' := w) ?_ ⟨Below.refl _ _, rfl⟩
        go_simp
      case r1_4o10 =>
        intro vs w hb hV
        rw [if_pos (by kernel_rfl)]
        generalize hρ : rho _ _ _ vs = ρ
        have d12 : (vs 7) = .int .u16 sq := hV 7 (by kernel_rfl)
        have e12 : ρ (.tmp 12) = vs 7 := by rw [← hρ]; kernel_rfl
        rw [d12] at e12; clear d12
        have d14 : (vs 9) = .int .u16 sq' := hV 9 (by kernel_rfl)
        have e14 : ρ (.tmp 14) = vs 9 := by rw [← hρ]; kernel_rfl
        rw [d14] at e14; clear d14
        clear hρ hV
        have hh := HN.out
        refine runs_val (v := .bool false) (w' := w) ?_ ⟨Below.refl _ _, rfl⟩
        go_simp
      case r1_4o11 =>
        intro vs w hb hV
        rw [if_pos (by kernel_rfl)]
        generalize hρ : rho _ _ _ vs = ρ
        have d10 : (vs 5) = .bool true := hV 5 (by kernel_rfl)
        have e10 : ρ (.tmp 10) = vs 5 := by rw [← hρ]; kernel_rfl
        rw [d10] at e10; clear d10
        have d15 : (vs 10) = .bool false := hV 10 (by kernel_rfl)
        have e15 : ρ (.tmp 15) = vs 10 := by rw [← hρ]; kernel_rfl
        rw [d15] at e15; clear d15
        have econ : ∀ v : Value, ρ (.const v) = v := fun v => by rw [← hρ]; rfl
        clear hρ hV
        refine runs_val (v := .bool false) (w' := w) ?_ ⟨Below.refl _ _, rfl⟩
        go_simp <;> (first | exact IntWalk.u64_in _ (by omega) | exact IntWalk.u32_in _ (by omega) | exact IntWalk.u16_in _ (by omega) | exact IntWalk.u8_in _ (by omega) | exact IntWalk.i64_in _ (by omega) | skip)
      case r1_4o12 =>
        intro vs w hb hV
        rw [if_pos (by kernel_rfl)]
        generalize hρ : rho _ _ _ vs = ρ
        have d16 : (vs 11) = .bool false := hV 11 (by kernel_rfl)
        have e16 : ρ (.tmp 16) = vs 11 := by rw [← hρ]; kernel_rfl
        clear hρ hV
        refine runs_val (v := vs 11) (w' := w) ?_ ⟨Below.refl _ _, d16⟩
        go_simp
      case r1_4o13 =>
        intro vs w hb hV
        (rw [if_neg (by decide)]) <;> exact rfl
      case r1_4o14 =>
        intro vs w hb hV
        (rw [if_neg (by decide)]) <;> exact rfl
      case r1_4o15 =>
        intro vs w hb hV
        (rw [if_neg (by decide)]) <;> exact rfl
      case r1_4o16 =>
        intro vs w hb hV
        (rw [if_neg (by decide)]) <;> exact rfl
      case r1_4o17 =>
        intro vs w hb hV
        (rw [if_neg (by decide)]) <;> exact rfl
      case r1_4o18 =>
        intro vs w hb hV
        rw [if_pos (by kernel_rfl)]
        generalize hρ : rho _ _ _ vs = ρ
        have d17 : (vs 12) = .bool false := hV 12 (by kernel_rfl)
        have e17 : ρ (.tmp 17) = vs 12 := by rw [← hρ]; kernel_rfl
        rw [d17] at e17; clear d17
        have d22 : (vs 17) = undef := hV 17 (by kernel_rfl)
        have e22 : ρ (.tmp 22) = vs 17 := by rw [← hρ]; kernel_rfl
        rw [d22] at e22; clear d22
        have econ : ∀ v : Value, ρ (.const v) = v := fun v => by rw [← hρ]; rfl
        clear hρ hV
        refine runs_val (v := .bool false) (w' := w) ?_ ⟨Below.refl _ _, rfl⟩
        go_simp <;> (first | exact IntWalk.u64_in _ (by omega) | exact IntWalk.u32_in _ (by omega) | exact IntWalk.u16_in _ (by omega) | exact IntWalk.u8_in _ (by omega) | exact IntWalk.i64_in _ (by omega) | skip)
      case r1_4o19 =>
        intro vs w hb hV
        rw [if_pos (by kernel_rfl)]
        generalize hρ : rho _ _ _ vs = ρ
        have d23 : (vs 18) = .bool false := hV 18 (by kernel_rfl)
        have e23 : ρ (.tmp 23) = vs 18 := by rw [← hρ]; kernel_rfl
        clear hρ hV
        refine runs_val (v := vs 18) (w' := w) ?_ ⟨Below.refl _ _, d23⟩
        go_simp
      case r1_4o20 =>
        intro vs w hb hV
        (rw [if_neg (by decide)]) <;> exact rfl
      case r1_4o21 =>
        intro vs w hb hV
        (rw [if_neg (by decide)]) <;> exact rfl
      case r1_4o22 =>
        intro vs w hb hV
        (rw [if_neg (by decide)]) <;> exact rfl
      case r1_4o23 =>
        intro vs w hb hV
        (rw [if_neg (by decide)]) <;> exact rfl
      case r1_4o24 =>
        intro vs w hb hV
        (rw [if_neg (by decide)]) <;> exact rfl
      case r1_4o25 =>
        intro vs w hb hV
        rw [if_pos (by kernel_rfl)]
        generalize hρ : rho _ _ _ vs = ρ
        have d24 : (vs 19) = .bool false := hV 19 (by kernel_rfl)
        have e24 : ρ (.tmp 24) = vs 19 := by rw [← hρ]; kernel_rfl
        rw [d24] at e24; clear d24
        have d29 : (vs 24) = undef := hV 24 (by kernel_rfl)
        have e29 : ρ (.tmp 29) = vs 24 := by rw [← hρ]; kernel_rfl
        rw [d29] at e29; clear d29
        have econ : ∀ v : Value, ρ (.const v) = v := fun v => by rw [← hρ]; rfl
        clear hρ hV
        refine runs_val (v := .bool false) (w' := w) ?_ ⟨Below.refl _ _, rfl⟩
        go_simp <;> (first | exact IntWalk.u64_in _ (by omega) | exact IntWalk.u32_in _ (by omega) | exact IntWalk.u16_in _ (by omega) | exact IntWalk.u8_in _ (by omega) | exact IntWalk.i64_in _ (by omega) | skip)
      case r1_4o26 =>
        intro vs w hb hV
        rw [if_pos (by kernel_rfl)]
        generalize hρ : rho _ _ _ vs = ρ
        have d30 : (vs 25) = .bool false := hV 25 (by kernel_rfl)
        have e30 : ρ (.tmp 30) = vs 25 := by rw [← hρ]; kernel_rfl
        clear hρ hV
        refine runs_val (v := vs 25) (w' := w) ?_ ⟨Below.refl _ _, d30⟩
        go_simp
      case r1_4o27 =>
        intro vs w hb hV
        (rw [if_neg (by decide)]) <;> exact rfl
      case r1_4o28 =>
        intro vs w hb hV
        (rw [if_neg (by decide)]) <;> exact rfl
      case r1_4o29 =>
        intro vs w hb hV
        (rw [if_neg (by decide)]) <;> exact rfl
      case r1_4o30 =>
        intro vs w hb hV
        (rw [if_neg (by decide)]) <;> exact rfl
      case r1_4o31 =>
        intro vs w hb hV
        (rw [if_neg (by decide)]) <;> exact rfl
      case r1_4o32 =>
        intro vs w hb hV
        rw [if_pos (by kernel_rfl)]
        generalize hρ : rho _ _ _ vs = ρ
        have d31 : (vs 26) = .bool false := hV 26 (by kernel_rfl)
        have e31 : ρ (.tmp 31) = vs 26 := by rw [← hρ]; kernel_rfl
        rw [d31] at e31; clear d31
        have d36 : (vs 31) = undef := hV 31 (by kernel_rfl)
        have e36 : ρ (.tmp 36) = vs 31 := by rw [← hρ]; kernel_rfl
        rw [d36] at e36; clear d36
        have econ : ∀ v : Value, ρ (.const v) = v := fun v => by rw [← hρ]; rfl
        clear hρ hV
        refine runs_val (v := .bool false) (w' := w) ?_ ⟨Below.refl _ _, rfl⟩
        go_simp <;> (first | exact IntWalk.u64_in _ (by omega) | exact IntWalk.u32_in _ (by omega) | exact IntWalk.u16_in _ (by omega) | exact IntWalk.u8_in _ (by omega) | exact IntWalk.i64_in _ (by omega) | skip)
      case r1_4o33 =>
        intro vs w hb hV
        rw [if_pos (by kernel_rfl)]
        generalize hρ : rho _ _ _ vs = ρ
        have d37 : (vs 32) = .bool false := hV 32 (by kernel_rfl)
        have e37 : ρ (.tmp 37) = vs 32 := by rw [← hρ]; kernel_rfl
        clear hρ hV
        refine runs_val (v := vs 32) (w' := w) ?_ ⟨Below.refl _ _, d37⟩
        go_simp
      case r1_4e =>
        intro vs W2 hb2 hV
        have d5 : (vs 0) = .pointer (some ⟨gd, 0, none⟩) := hV 0 (Nat.le_of_ble_eq_true rfl)
        have d6 : (vs 1) = .int .u16 ep := hV 1 (Nat.le_of_ble_eq_true rfl)
        have d7 : (vs 2) = .pointer (some ⟨gd + 1, 0, none⟩) := hV 2 (Nat.le_of_ble_eq_true rfl)
        have d8 : (vs 3) = .int .u16 ep := hV 3 (Nat.le_of_ble_eq_true rfl)
        have d9 : (vs 4) = .bool true := hV 4 (Nat.le_of_ble_eq_true rfl)
        have d10 : (vs 5) = .bool true := hV 5 (Nat.le_of_ble_eq_true rfl)
        have d11 : (vs 6) = .pointer (some ⟨gd, 1, none⟩) := hV 6 (Nat.le_of_ble_eq_true rfl)
        have d12 : (vs 7) = .int .u16 sq := hV 7 (Nat.le_of_ble_eq_true rfl)
        have d13 : (vs 8) = .pointer (some ⟨gd + 1, 1, none⟩) := hV 8 (Nat.le_of_ble_eq_true rfl)
        have d14 : (vs 9) = .int .u16 sq' := hV 9 (Nat.le_of_ble_eq_true rfl)
        have d15 : (vs 10) = .bool false := hV 10 (Nat.le_of_ble_eq_true rfl)
        have d16 : (vs 11) = .bool false := hV 11 (Nat.le_of_ble_eq_true rfl)
        have d17 : (vs 12) = .bool false := hV 12 (Nat.le_of_ble_eq_true rfl)
        have d18 : (vs 13) = undef := hV 13 (Nat.le_of_ble_eq_true rfl)
        have d19 : (vs 14) = undef := hV 14 (Nat.le_of_ble_eq_true rfl)
        have d20 : (vs 15) = undef := hV 15 (Nat.le_of_ble_eq_true rfl)
        have d21 : (vs 16) = undef := hV 16 (Nat.le_of_ble_eq_true rfl)
        have d22 : (vs 17) = undef := hV 17 (Nat.le_of_ble_eq_true rfl)
        have d23 : (vs 18) = .bool false := hV 18 (Nat.le_of_ble_eq_true rfl)
        have d24 : (vs 19) = .bool false := hV 19 (Nat.le_of_ble_eq_true rfl)
        have d25 : (vs 20) = undef := hV 20 (Nat.le_of_ble_eq_true rfl)
        have d26 : (vs 21) = undef := hV 21 (Nat.le_of_ble_eq_true rfl)
        have d27 : (vs 22) = undef := hV 22 (Nat.le_of_ble_eq_true rfl)
        have d28 : (vs 23) = undef := hV 23 (Nat.le_of_ble_eq_true rfl)
        have d29 : (vs 24) = undef := hV 24 (Nat.le_of_ble_eq_true rfl)
        have d30 : (vs 25) = .bool false := hV 25 (Nat.le_of_ble_eq_true rfl)
        have d31 : (vs 26) = .bool false := hV 26 (Nat.le_of_ble_eq_true rfl)
        have d32 : (vs 27) = undef := hV 27 (Nat.le_of_ble_eq_true rfl)
        have d33 : (vs 28) = undef := hV 28 (Nat.le_of_ble_eq_true rfl)
        have d34 : (vs 29) = undef := hV 29 (Nat.le_of_ble_eq_true rfl)
        have d35 : (vs 30) = undef := hV 30 (Nat.le_of_ble_eq_true rfl)
        have d36 : (vs 31) = undef := hV 31 (Nat.le_of_ble_eq_true rfl)
        have d37 : (vs 32) = .bool false := hV 32 (Nat.le_of_ble_eq_true rfl)
        have d4 : (vs 33) = .bool false := hV 33 (Nat.le_of_ble_eq_true rfl)
        clear hV
        simp only [putAll]
        rw [d5, d6, d7, d8, d9, d10, d11, d12, d13, d14, d15, d16, d17, d18, d19, d20, d21, d22, d23, d24, d25, d26, d27, d28, d29, d30, d31, d32, d33, d34, d35, d36, d37, d4]
        clear d5 d6 d7 d8 d9 d10 d11 d12 d13 d14 d15 d16 d17 d18 d19 d20 d21 d22 d23 d24 d25 d26 d27 d28 d29 d30 d31 d32 d33 d34 d35 d36 d37 d4
        clear vs
        simp only [Act.put, List.setIfInBounds_toArray, List.set_cons_zero, List.set_cons_succ]
        have HV : Aside0 (β = false) := ⟨by rw [Bool.eq_false_iff]; intro e; exact HN.out ((HBE.out.1 e).2.1)⟩
        go_wp2_with fail
        go_ret
        rw [HGD.out, HV.out]
        exact ⟨rfl, HBW.out _ hb2⟩
  · have HN := Aside0.mk e0
    refine region_grown (W := W)
      [fun (w : World) (v : Value) => v = .pointer (some ⟨gd, 0, none⟩),
       fun (w : World) (v : Value) => v = .int .u16 ep,
       fun (w : World) (v : Value) => v = .pointer (some ⟨gd + 1, 0, none⟩),
       fun (w : World) (v : Value) => v = .int .u16 ep',
       fun (w : World) (v : Value) => v = .bool false,
       fun (w : World) (v : Value) => v = .bool false,
       fun (w : World) (v : Value) => v = undef,
       fun (w : World) (v : Value) => v = undef,
       fun (w : World) (v : Value) => v = undef,
       fun (w : World) (v : Value) => v = undef,
       fun (w : World) (v : Value) => v = undef,
       fun (w : World) (v : Value) => v = .bool false,
       fun (w : World) (v : Value) => v = .bool false,
       fun (w : World) (v : Value) => v = undef,
       fun (w : World) (v : Value) => v = undef,
       fun (w : World) (v : Value) => v = undef,
       fun (w : World) (v : Value) => v = undef,
       fun (w : World) (v : Value) => v = undef,
       fun (w : World) (v : Value) => v = .bool false,
       fun (w : World) (v : Value) => v = .bool false,
       fun (w : World) (v : Value) => v = undef,
       fun (w : World) (v : Value) => v = undef,
       fun (w : World) (v : Value) => v = undef,
       fun (w : World) (v : Value) => v = undef,
       fun (w : World) (v : Value) => v = undef,
       fun (w : World) (v : Value) => v = .bool false,
       fun (w : World) (v : Value) => v = .bool false,
       fun (w : World) (v : Value) => v = undef,
       fun (w : World) (v : Value) => v = undef,
       fun (w : World) (v : Value) => v = undef,
       fun (w : World) (v : Value) => v = undef,
       fun (w : World) (v : Value) => v = undef,
       fun (w : World) (v : Value) => v = .bool false,
       fun (w : World) (v : Value) => v = .bool false]
      (fun j => if j = 5 then some false else if j = 12 then some false else if j = 19 then some false else if j = 26 then some false else none)
      [(0, some 5), (1, some 6), (2, some 7), (3, some 8), (4, some 9), (5, some 10), (6, some 11), (7, some 12), (8, some 13), (9, some 14), (10, some 15), (11, some 16), (12, some 17), (13, some 18), (14, some 19), (15, some 20), (16, some 21), (17, some 22), (18, some 23), (19, some 24), (20, some 25), (21, some 26), (22, some 27), (23, some 28), (24, some 29), (25, some 30), (26, some 31), (27, some 32), (28, some 33), (29, some 34), (30, some 35), (31, some 36), (32, some 37), (33, some 4)]
      [5, 12, 19, 26]
      (by kernel_rfl) (by kernel_rfl) (by kernel_rfl) (by kernel_rfl) ?r1_5g ?r1_5s ⟨?r1_5o0, ?r1_5o1, ?r1_5o2, ?r1_5o3, ?r1_5o4, ?r1_5o5, ?r1_5o6, ?r1_5o7, ?r1_5o8, ?r1_5o9, ?r1_5o10, ?r1_5o11, ?r1_5o12, ?r1_5o13, ?r1_5o14, ?r1_5o15, ?r1_5o16, ?r1_5o17, ?r1_5o18, ?r1_5o19, ?r1_5o20, ?r1_5o21, ?r1_5o22, ?r1_5o23, ?r1_5o24, ?r1_5o25, ?r1_5o26, ?r1_5o27, ?r1_5o28, ?r1_5o29, ?r1_5o30, ?r1_5o31, ?r1_5o32, ?r1_5o33, trivial⟩ ?r1_5e
    case r1_5g =>
      intro j hj w v hv
      simp only [List.mem_cons, List.not_mem_nil, or_false] at hj
      rcases hj with rfl | rfl | rfl | rfl
      · have hv' : v = .bool false := hv; rw [hv']; rfl
      · have hv' : v = .bool false := hv; rw [hv']; rfl
      · have hv' : v = .bool false := hv; rw [hv']; rfl
      · have hv' : v = .bool false := hv; rw [hv']; rfl
    case r1_5s =>
      refine ⟨(fun w w' v hb h => h), (fun w w' v hb h => h), (fun w w' v hb h => h), (fun w w' v hb h => h), (fun w w' v hb h => h), (fun w w' v hb h => h), (fun w w' v hb h => h), (fun w w' v hb h => h), (fun w w' v hb h => h), (fun w w' v hb h => h), (fun w w' v hb h => h), (fun w w' v hb h => h), (fun w w' v hb h => h), (fun w w' v hb h => h), (fun w w' v hb h => h), (fun w w' v hb h => h), (fun w w' v hb h => h), (fun w w' v hb h => h), (fun w w' v hb h => h), (fun w w' v hb h => h), (fun w w' v hb h => h), (fun w w' v hb h => h), (fun w w' v hb h => h), (fun w w' v hb h => h), (fun w w' v hb h => h), (fun w w' v hb h => h), (fun w w' v hb h => h), (fun w w' v hb h => h), (fun w w' v hb h => h), (fun w w' v hb h => h), (fun w w' v hb h => h), (fun w w' v hb h => h), (fun w w' v hb h => h), (fun w w' v hb h => h), trivial⟩
    case r1_5o0 =>
      intro vs w hb hV
      rw [if_pos (by kernel_rfl)]
      generalize hρ : rho _ _ _ vs = ρ
      have e2 : ρ (.tmp 2) = .pointer (some ⟨gd, 0, none⟩) := by rw [← hρ]; kernel_rfl
      clear hρ hV
      refine runs_val (v := .pointer (some ⟨gd, 0, none⟩)) (w' := w) ?_ ⟨Below.refl _ _, rfl⟩
      go_simp <;> (first | exact IntWalk.u64_in _ (by omega) | exact IntWalk.u32_in _ (by omega) | exact IntWalk.u16_in _ (by omega) | exact IntWalk.u8_in _ (by omega) | exact IntWalk.i64_in _ (by omega) | skip)
    case r1_5o1 =>
      intro vs w hb hV
      rw [if_pos (by kernel_rfl)]
      generalize hρ : rho _ _ _ vs = ρ
      have d5 : (vs 0) = .pointer (some ⟨gd, 0, none⟩) := hV 0 (by kernel_rfl)
      have e5 : ρ (.tmp 5) = vs 0 := by rw [← hρ]; kernel_rfl
      rw [d5] at e5; clear d5
      clear hρ hV
      have c0 := blk_cell (HA.out w hb) 0
      refine runs_val (v := .int .u16 ep) (w' := w) ?_ ⟨Below.refl _ _, rfl⟩
      go_simp
    case r1_5o2 =>
      intro vs w hb hV
      rw [if_pos (by kernel_rfl)]
      generalize hρ : rho _ _ _ vs = ρ
      have e3 : ρ (.tmp 3) = .pointer (some ⟨gd + 1, 0, none⟩) := by rw [← hρ]; kernel_rfl
      clear hρ hV
      refine runs_val (v := .pointer (some ⟨gd + 1, 0, none⟩)) (w' := w) ?_ ⟨Below.refl _ _, rfl⟩
      go_simp <;> (first | exact IntWalk.u64_in _ (by omega) | exact IntWalk.u32_in _ (by omega) | exact IntWalk.u16_in _ (by omega) | exact IntWalk.u8_in _ (by omega) | exact IntWalk.i64_in _ (by omega) | skip)
    case r1_5o3 =>
      intro vs w hb hV
      rw [if_pos (by kernel_rfl)]
      generalize hρ : rho _ _ _ vs = ρ
      have d7 : (vs 2) = .pointer (some ⟨gd + 1, 0, none⟩) := hV 2 (by kernel_rfl)
      have e7 : ρ (.tmp 7) = vs 2 := by rw [← hρ]; kernel_rfl
      rw [d7] at e7; clear d7
      clear hρ hV
      have c0 := blk_cell (HB.out w hb) 0
      refine runs_val (v := .int .u16 ep') (w' := w) ?_ ⟨Below.refl _ _, rfl⟩
      go_simp
    case r1_5o4 =>
      intro vs w hb hV
      rw [if_pos (by kernel_rfl)]
      generalize hρ : rho _ _ _ vs = ρ
      have d6 : (vs 1) = .int .u16 ep := hV 1 (by kernel_rfl)
      have e6 : ρ (.tmp 6) = vs 1 := by rw [← hρ]; kernel_rfl
      rw [d6] at e6; clear d6
      have d8 : (vs 3) = .int .u16 ep' := hV 3 (by kernel_rfl)
      have e8 : ρ (.tmp 8) = vs 3 := by rw [← hρ]; kernel_rfl
      rw [d8] at e8; clear d8
      clear hρ hV
      have hh := HN.out
      refine runs_val (v := .bool false) (w' := w) ?_ ⟨Below.refl _ _, rfl⟩
      go_simp
    case r1_5o5 =>
      intro vs w hb hV
      rw [if_pos (by kernel_rfl)]
      generalize hρ : rho _ _ _ vs = ρ
      have d9 : (vs 4) = .bool false := hV 4 (by kernel_rfl)
      have e9 : ρ (.tmp 9) = vs 4 := by rw [← hρ]; kernel_rfl
      clear hρ hV
      refine runs_val (v := vs 4) (w' := w) ?_ ⟨Below.refl _ _, d9⟩
      go_simp
    case r1_5o6 =>
      intro vs w hb hV
      (rw [if_neg (by decide)]) <;> exact rfl
    case r1_5o7 =>
      intro vs w hb hV
      (rw [if_neg (by decide)]) <;> exact rfl
    case r1_5o8 =>
      intro vs w hb hV
      (rw [if_neg (by decide)]) <;> exact rfl
    case r1_5o9 =>
      intro vs w hb hV
      (rw [if_neg (by decide)]) <;> exact rfl
    case r1_5o10 =>
      intro vs w hb hV
      (rw [if_neg (by decide)]) <;> exact rfl
    case r1_5o11 =>
      intro vs w hb hV
      rw [if_pos (by kernel_rfl)]
      generalize hρ : rho _ _ _ vs = ρ
      have d10 : (vs 5) = .bool false := hV 5 (by kernel_rfl)
      have e10 : ρ (.tmp 10) = vs 5 := by rw [← hρ]; kernel_rfl
      rw [d10] at e10; clear d10
      have d15 : (vs 10) = undef := hV 10 (by kernel_rfl)
      have e15 : ρ (.tmp 15) = vs 10 := by rw [← hρ]; kernel_rfl
      rw [d15] at e15; clear d15
      have econ : ∀ v : Value, ρ (.const v) = v := fun v => by rw [← hρ]; rfl
      clear hρ hV
      refine runs_val (v := .bool false) (w' := w) ?_ ⟨Below.refl _ _, rfl⟩
      go_simp <;> (first | exact IntWalk.u64_in _ (by omega) | exact IntWalk.u32_in _ (by omega) | exact IntWalk.u16_in _ (by omega) | exact IntWalk.u8_in _ (by omega) | exact IntWalk.i64_in _ (by omega) | skip)
    case r1_5o12 =>
      intro vs w hb hV
      rw [if_pos (by kernel_rfl)]
      generalize hρ : rho _ _ _ vs = ρ
      have d16 : (vs 11) = .bool false := hV 11 (by kernel_rfl)
      have e16 : ρ (.tmp 16) = vs 11 := by rw [← hρ]; kernel_rfl
      clear hρ hV
      refine runs_val (v := vs 11) (w' := w) ?_ ⟨Below.refl _ _, d16⟩
      go_simp
    case r1_5o13 =>
      intro vs w hb hV
      (rw [if_neg (by decide)]) <;> exact rfl
    case r1_5o14 =>
      intro vs w hb hV
      (rw [if_neg (by decide)]) <;> exact rfl
    case r1_5o15 =>
      intro vs w hb hV
      (rw [if_neg (by decide)]) <;> exact rfl
    case r1_5o16 =>
      intro vs w hb hV
      (rw [if_neg (by decide)]) <;> exact rfl
    case r1_5o17 =>
      intro vs w hb hV
      (rw [if_neg (by decide)]) <;> exact rfl
    case r1_5o18 =>
      intro vs w hb hV
      rw [if_pos (by kernel_rfl)]
      generalize hρ : rho _ _ _ vs = ρ
      have d17 : (vs 12) = .bool false := hV 12 (by kernel_rfl)
      have e17 : ρ (.tmp 17) = vs 12 := by rw [← hρ]; kernel_rfl
      rw [d17] at e17; clear d17
      have d22 : (vs 17) = undef := hV 17 (by kernel_rfl)
      have e22 : ρ (.tmp 22) = vs 17 := by rw [← hρ]; kernel_rfl
      rw [d22] at e22; clear d22
      have econ : ∀ v : Value, ρ (.const v) = v := fun v => by rw [← hρ]; rfl
      clear hρ hV
      refine runs_val (v := .bool false) (w' := w) ?_ ⟨Below.refl _ _, rfl⟩
      go_simp <;> (first | exact IntWalk.u64_in _ (by omega) | exact IntWalk.u32_in _ (by omega) | exact IntWalk.u16_in _ (by omega) | exact IntWalk.u8_in _ (by omega) | exact IntWalk.i64_in _ (by omega) | skip)
    case r1_5o19 =>
      intro vs w hb hV
      rw [if_pos (by kernel_rfl)]
      generalize hρ : rho _ _ _ vs = ρ
      have d23 : (vs 18) = .bool false := hV 18 (by kernel_rfl)
      have e23 : ρ (.tmp 23) = vs 18 := by rw [← hρ]; kernel_rfl
      clear hρ hV
      refine runs_val (v := vs 18) (w' := w) ?_ ⟨Below.refl _ _, d23⟩
      go_simp
    case r1_5o20 =>
      intro vs w hb hV
      (rw [if_neg (by decide)]) <;> exact rfl
    case r1_5o21 =>
      intro vs w hb hV
      (rw [if_neg (by decide)]) <;> exact rfl
    case r1_5o22 =>
      intro vs w hb hV
      (rw [if_neg (by decide)]) <;> exact rfl
    case r1_5o23 =>
      intro vs w hb hV
      (rw [if_neg (by decide)]) <;> exact rfl
    case r1_5o24 =>
      intro vs w hb hV
      (rw [if_neg (by decide)]) <;> exact rfl
    case r1_5o25 =>
      intro vs w hb hV
      rw [if_pos (by kernel_rfl)]
      generalize hρ : rho _ _ _ vs = ρ
      have d24 : (vs 19) = .bool false := hV 19 (by kernel_rfl)
      have e24 : ρ (.tmp 24) = vs 19 := by rw [← hρ]; kernel_rfl
      rw [d24] at e24; clear d24
      have d29 : (vs 24) = undef := hV 24 (by kernel_rfl)
      have e29 : ρ (.tmp 29) = vs 24 := by rw [← hρ]; kernel_rfl
      rw [d29] at e29; clear d29
      have econ : ∀ v : Value, ρ (.const v) = v := fun v => by rw [← hρ]; rfl
      clear hρ hV
      refine runs_val (v := .bool false) (w' := w) ?_ ⟨Below.refl _ _, rfl⟩
      go_simp <;> (first | exact IntWalk.u64_in _ (by omega) | exact IntWalk.u32_in _ (by omega) | exact IntWalk.u16_in _ (by omega) | exact IntWalk.u8_in _ (by omega) | exact IntWalk.i64_in _ (by omega) | skip)
    case r1_5o26 =>
      intro vs w hb hV
      rw [if_pos (by kernel_rfl)]
      generalize hρ : rho _ _ _ vs = ρ
      have d30 : (vs 25) = .bool false := hV 25 (by kernel_rfl)
      have e30 : ρ (.tmp 30) = vs 25 := by rw [← hρ]; kernel_rfl
      clear hρ hV
      refine runs_val (v := vs 25) (w' := w) ?_ ⟨Below.refl _ _, d30⟩
      go_simp
    case r1_5o27 =>
      intro vs w hb hV
      (rw [if_neg (by decide)]) <;> exact rfl
    case r1_5o28 =>
      intro vs w hb hV
      (rw [if_neg (by decide)]) <;> exact rfl
    case r1_5o29 =>
      intro vs w hb hV
      (rw [if_neg (by decide)]) <;> exact rfl
    case r1_5o30 =>
      intro vs w hb hV
      (rw [if_neg (by decide)]) <;> exact rfl
    case r1_5o31 =>
      intro vs w hb hV
      (rw [if_neg (by decide)]) <;> exact rfl
    case r1_5o32 =>
      intro vs w hb hV
      rw [if_pos (by kernel_rfl)]
      generalize hρ : rho _ _ _ vs = ρ
      have d31 : (vs 26) = .bool false := hV 26 (by kernel_rfl)
      have e31 : ρ (.tmp 31) = vs 26 := by rw [← hρ]; kernel_rfl
      rw [d31] at e31; clear d31
      have d36 : (vs 31) = undef := hV 31 (by kernel_rfl)
      have e36 : ρ (.tmp 36) = vs 31 := by rw [← hρ]; kernel_rfl
      rw [d36] at e36; clear d36
      have econ : ∀ v : Value, ρ (.const v) = v := fun v => by rw [← hρ]; rfl
      clear hρ hV
      refine runs_val (v := .bool false) (w' := w) ?_ ⟨Below.refl _ _, rfl⟩
      go_simp <;> (first | exact IntWalk.u64_in _ (by omega) | exact IntWalk.u32_in _ (by omega) | exact IntWalk.u16_in _ (by omega) | exact IntWalk.u8_in _ (by omega) | exact IntWalk.i64_in _ (by omega) | skip)
    case r1_5o33 =>
      intro vs w hb hV
      rw [if_pos (by kernel_rfl)]
      generalize hρ : rho _ _ _ vs = ρ
      have d37 : (vs 32) = .bool false := hV 32 (by kernel_rfl)
      have e37 : ρ (.tmp 37) = vs 32 := by rw [← hρ]; kernel_rfl
      clear hρ hV
      refine runs_val (v := vs 32) (w' := w) ?_ ⟨Below.refl _ _, d37⟩
      go_simp
    case r1_5e =>
      intro vs W2 hb2 hV
      have d5 : (vs 0) = .pointer (some ⟨gd, 0, none⟩) := hV 0 (Nat.le_of_ble_eq_true rfl)
      have d6 : (vs 1) = .int .u16 ep := hV 1 (Nat.le_of_ble_eq_true rfl)
      have d7 : (vs 2) = .pointer (some ⟨gd + 1, 0, none⟩) := hV 2 (Nat.le_of_ble_eq_true rfl)
      have d8 : (vs 3) = .int .u16 ep' := hV 3 (Nat.le_of_ble_eq_true rfl)
      have d9 : (vs 4) = .bool false := hV 4 (Nat.le_of_ble_eq_true rfl)
      have d10 : (vs 5) = .bool false := hV 5 (Nat.le_of_ble_eq_true rfl)
      have d11 : (vs 6) = undef := hV 6 (Nat.le_of_ble_eq_true rfl)
      have d12 : (vs 7) = undef := hV 7 (Nat.le_of_ble_eq_true rfl)
      have d13 : (vs 8) = undef := hV 8 (Nat.le_of_ble_eq_true rfl)
      have d14 : (vs 9) = undef := hV 9 (Nat.le_of_ble_eq_true rfl)
      have d15 : (vs 10) = undef := hV 10 (Nat.le_of_ble_eq_true rfl)
      have d16 : (vs 11) = .bool false := hV 11 (Nat.le_of_ble_eq_true rfl)
      have d17 : (vs 12) = .bool false := hV 12 (Nat.le_of_ble_eq_true rfl)
      have d18 : (vs 13) = undef := hV 13 (Nat.le_of_ble_eq_true rfl)
      have d19 : (vs 14) = undef := hV 14 (Nat.le_of_ble_eq_true rfl)
      have d20 : (vs 15) = undef := hV 15 (Nat.le_of_ble_eq_true rfl)
      have d21 : (vs 16) = undef := hV 16 (Nat.le_of_ble_eq_true rfl)
      have d22 : (vs 17) = undef := hV 17 (Nat.le_of_ble_eq_true rfl)
      have d23 : (vs 18) = .bool false := hV 18 (Nat.le_of_ble_eq_true rfl)
      have d24 : (vs 19) = .bool false := hV 19 (Nat.le_of_ble_eq_true rfl)
      have d25 : (vs 20) = undef := hV 20 (Nat.le_of_ble_eq_true rfl)
      have d26 : (vs 21) = undef := hV 21 (Nat.le_of_ble_eq_true rfl)
      have d27 : (vs 22) = undef := hV 22 (Nat.le_of_ble_eq_true rfl)
      have d28 : (vs 23) = undef := hV 23 (Nat.le_of_ble_eq_true rfl)
      have d29 : (vs 24) = undef := hV 24 (Nat.le_of_ble_eq_true rfl)
      have d30 : (vs 25) = .bool false := hV 25 (Nat.le_of_ble_eq_true rfl)
      have d31 : (vs 26) = .bool false := hV 26 (Nat.le_of_ble_eq_true rfl)
      have d32 : (vs 27) = undef := hV 27 (Nat.le_of_ble_eq_true rfl)
      have d33 : (vs 28) = undef := hV 28 (Nat.le_of_ble_eq_true rfl)
      have d34 : (vs 29) = undef := hV 29 (Nat.le_of_ble_eq_true rfl)
      have d35 : (vs 30) = undef := hV 30 (Nat.le_of_ble_eq_true rfl)
      have d36 : (vs 31) = undef := hV 31 (Nat.le_of_ble_eq_true rfl)
      have d37 : (vs 32) = .bool false := hV 32 (Nat.le_of_ble_eq_true rfl)
      have d4 : (vs 33) = .bool false := hV 33 (Nat.le_of_ble_eq_true rfl)
      clear hV
      simp only [putAll]
      rw [d5, d6, d7, d8, d9, d10, d11, d12, d13, d14, d15, d16, d17, d18, d19, d20, d21, d22, d23, d24, d25, d26, d27, d28, d29, d30, d31, d32, d33, d34, d35, d36, d37, d4]
      clear d5 d6 d7 d8 d9 d10 d11 d12 d13 d14 d15 d16 d17 d18 d19 d20 d21 d22 d23 d24 d25 d26 d27 d28 d29 d30 d31 d32 d33 d34 d35 d36 d37 d4
      clear vs
      simp only [Act.put, List.setIfInBounds_toArray, List.set_cons_zero, List.set_cons_succ]
      have HV : Aside0 (β = false) := ⟨by rw [Bool.eq_false_iff]; intro e; exact HN.out ((HBE.out.1 e).1)⟩
      go_wp2_with fail
      go_ret
      rw [HGD.out, HV.out]
      exact ⟨rfl, HBW.out _ hb2⟩
end Go.Proofs.Yticpjidcgaaldaa

namespace Go.Proofs.Yticpjidcgaaldaa
open Go.RowKit Go.Proofs.YticpjidcgaaldaaW.PrintWords Go.Proofs.YticpjidcgaaldaaW.PrintLast Go.Proofs.YticpjidcgaaldaaW.PrintMore
set_option linter.unusedVariables false
set_option linter.unusedSimpArgs false

set_option maxRecDepth 100000 in
set_option maxHeartbeats 16000000 in
theorem mlike_any (k t m tk hs k' t' m' tk' hs' : Int) (P P' : List Int) (R R' : List S59) (v u : Value) (w00 : World) (hv : MsC w00 k t m tk hs P R v) (hu : MsC w00 k' t' m' tk' hs' P' R' u) (hP : Bytes P) (hP' : Bytes P') (hn : R.length ≤ 1000000) (hn' : R'.length ≤ 1000000) (β : Bool) (hβ : β = true ↔ k = k' ∧ t = t' ∧ m = m' ∧ tk = tk' ∧ hs = hs' ∧ P = P' ∧ R = R') :
    Calls Try.prog 20 #[v, u] w00 fun e w' => e = .returned (.bool β) ∧ Below w00.heap.size w00 w' := by
  obtain ⟨A, c, A2, c2, rfl, h2, h3, h4, h5⟩ := hv
  obtain ⟨A', c', A2', c2', rfl, k2, k3, k4, k5⟩ := hu
  have HBE := Aside0.mk hβ
  have HF : Aside0 (∀ z, Below w00.heap.size w00 z → DvC z tk hs P R (.agg #[.int .u32 tk, .int .u32 hs, .slice A P.length c, .slice A2 R.length c2]) ∧ DvC z tk' hs' P' R' (.agg #[.int .u32 tk', .int .u32 hs', .slice A' P'.length c', .slice A2' R'.length c2'])) := ⟨fun z hb => ⟨⟨A, c, A2, c2, rfl, h2, h3, Kd.C_below h4 hb, Kd.C_below h5 hb⟩, ⟨A', c', A2', c2', rfl, k2, k3, Kd.C_below k4 hb, Kd.C_below k5 hb⟩⟩⟩
  have KD := Aside0.mk (fun (γ : Bool) (hγ : γ = true ↔ tk = tk' ∧ hs = hs' ∧ P = P' ∧ R = R') (z : World) (hz : Below w00.heap.size w00 z) => dsameG_any tk hs tk' hs' P P' R R' _ _ z (HF.out z hz).1 (HF.out z hz).2 hP hP' hn hn' γ hγ)
  have H0 := Aside0.mk (((Hp.start w00).alloc (.cells #[.int .u8 k, .int .u32 t, .int .u32 m, .int .u32 tk, .int .u32 hs, .slice A P.length c, .slice A2 R.length c2] 28)).allocAt (.cells #[.int .u8 k', .int .u32 t', .int .u32 m', .int .u32 tk', .int .u32 hs', .slice A' P'.length c', .slice A2' R'.length c2'] 28) (w00.heap.size + 1) (by simp))
  clear h2 h3 h4 h5 k2 k3 k4 k5 hn hn' hP hP' hβ
  obtain ⟨n, hn⟩ : ∃ n, P.length = n := ⟨_, rfl⟩
  obtain ⟨p, hp⟩ : ∃ p, R.length = p := ⟨_, rfl⟩
  obtain ⟨n', hn'⟩ : ∃ n, P'.length = n := ⟨_, rfl⟩
  obtain ⟨p', hp'⟩ : ∃ p, R'.length = p := ⟨_, rfl⟩
  rw [hn, hp, hn', hp'] at KD HF H0
  rw [hn, hp, hn', hp']
  clear hn hp hn' hp'
  go_enter Try.func20, Try.ntmps20
  go_upto_region 1 with fail
  generalize (w00.alloc (.cells #[.int .u8 k, .int .u32 t, .int .u32 m, .int .u32 tk, .int .u32 hs, .slice A n c, .slice A2 p c2] 28)).alloc (.cells #[.int .u8 k', .int .u32 t', .int .u32 m', .int .u32 tk', .int .u32 hs', .slice A' n' c', .slice A2' p' c2'] 28) = W at *
  obtain ⟨gd, hgd⟩ : ∃ gd, w00.heap.size = gd := ⟨_, rfl⟩
  rw [hgd] at H0 HF KD
  rw [hgd]
  have HGD := Aside0.mk hgd
  clear hgd
  have a0 := blk_cell (H0.out.get (i := 1) rfl) 0
  have a1 := blk_cell (H0.out.get (i := 1) rfl) 1
  have a2 := blk_cell (H0.out.get (i := 1) rfl) 2
  have a3 := blk_cell (H0.out.get (i := 1) rfl) 3
  have a4 := blk_cell (H0.out.get (i := 1) rfl) 4
  have a5 := blk_cell (H0.out.get (i := 1) rfl) 5
  have a6 := blk_cell (H0.out.get (i := 1) rfl) 6
  have b0 := blk_cell (H0.out.get (i := 0) rfl) 0
  have b1 := blk_cell (H0.out.get (i := 0) rfl) 1
  have b2 := blk_cell (H0.out.get (i := 0) rfl) 2
  have b3 := blk_cell (H0.out.get (i := 0) rfl) 3
  have b4 := blk_cell (H0.out.get (i := 0) rfl) 4
  have b5 := blk_cell (H0.out.get (i := 0) rfl) 5
  have b6 := blk_cell (H0.out.get (i := 0) rfl) 6
  by_cases e0 : k = k'
  · subst e0
    by_cases e1 : t = t'
    · subst e1
      by_cases e2 : m = m'
      · subst e2
        go_wp2_with fail
        refine (KD.out β ⟨fun h => (HBE.out.1 h).2.2.2, fun h => HBE.out.2 (by exact ⟨trivial, trivial, trivial, h⟩)⟩ W H0.out.bel).mono ?_
        rintro e w1 ⟨rfl, hb1⟩
        have H1 := Aside0.mk (H0.out.call hb1)
        clear a0 a1 a2 a3 a4 a5 a6 b0 b1 b2 b3 b4 b5 b6 hb1 H0
        go_wp2_with fail
        go_ret
        rw [HGD.out]
        exact ⟨rfl, H1.out.bel⟩
      · have HT : Aside0 (β = false) := ⟨by
          rw [Bool.eq_false_iff]
          intro e
          exact e2 (HBE.out.1 e).2.2.1⟩
        go_wp2_with fail
        go_ret
        rw [HGD.out, HT.out]
        exact ⟨rfl, H0.out.bel⟩
    · have HT : Aside0 (β = false) := ⟨by
        rw [Bool.eq_false_iff]
        intro e
        exact e1 (HBE.out.1 e).2.1⟩
      go_wp2_with fail
      go_ret
      rw [HGD.out, HT.out]
      exact ⟨rfl, H0.out.bel⟩
  · have HT : Aside0 (β = false) := ⟨by
      rw [Bool.eq_false_iff]
      intro e
      exact e0 (HBE.out.1 e).1⟩
    go_wp2_with fail
    go_ret
    rw [HGD.out, HT.out]
    exact ⟨rfl, H0.out.bel⟩
theorem Kd.C_any0 {α : Type} {d : Kd α} {w : World} {A : Option Addr} (h : d.C w A 0 []) (z : World) : d.C z A 0 [] := ⟨rfl, by simp, fun hn => absurd hn (by simp)⟩
theorem ex_bytes : mBytes 2 5 2 0 0 [] [] = [2, 5, 0, 0, 0, 2, 0, 0, 0] := by decide
theorem ex_read : readR [2, 5, 0, 0, 0, 2, 0, 0, 0] = ⟨true, 2, 5, 2, 0, 0, [], []⟩ := by rw [readR_two]; rfl
theorem ex_ok : OkM 2 5 2 0 0 [] [] := OkM_zero (by omega) (by omega) (by omega)
set_option maxRecDepth 100000 in
set_option maxHeartbeats 16000000 in
theorem awake11_any (w00 : World) : Calls Try.prog 10 #[] w00 fun e w' => e = .returned (.bool true) ∧ Below w00.heap.size w00 w' := by
  obtain ⟨B, hB⟩ : ∃ B, w00.heap.size = B := ⟨_, rfl⟩
  have H0 := Aside0.mk ((Hp.start w00).allocAt (.cells #[.int .u8 2, .int .u32 5, .int .u32 2, .int .u32 0, .int .u32 0, .slice none 0 0, .slice none 0 0] 28) B hB)
  rw [hB] at H0
  rw [hB]
  have HB := Aside0.mk hB
  have hz7 := zero_msg
  go_enter Try.func10, Try.ntmps10
  go_wp2_with (first | (refine wpList_load_row_g 28 (.tmp 1) rfl B rfl rfl 28 _ (0, 0) _ (H0.out.get (i := 0) rfl) Try.underlying28 rfl (msg_info _ _ _ _ _ _ _) ?_))
  refine (mbytes_any 2 5 2 0 0 [] [] _ _ (MsC_zero _ _ _ _) ex_ok).mono ?_
  rintro e w1 ⟨v1, rfl, hv1, hb1⟩
  rw [ex_bytes] at hv1
  have H1 := Aside0.mk (H0.out.row hb1 hv1)
  obtain ⟨A1, c1, rfl, hc1, _⟩ := Kd.R_reads hv1
  rw [show ([2, 5, 0, 0, 0, 2, 0, 0, 0] : List Int).length = 9 from rfl] at H1 hc1
  rw [show ([2, 5, 0, 0, 0, 2, 0, 0, 0] : List Int).length = 9 from rfl]
  clear hv1 hb1 H0
  go_wp2_with fail
  refine (mread_any A1 9 c1 [2, 5, 0, 0, 0, 2, 0, 0, 0] _ (Ru_C (H1.out.fact (i := 0) rfl)).2.2 hc1 (by omega) (by intro b hb; simp only [List.mem_cons, List.not_mem_nil, or_false] at hb; omega)).mono ?_
  rintro e w2 ⟨⟨v2, rfl, hv2⟩, hb2⟩
  rw [ex_read] at hv2 ⊢
  simp only at hv2
  obtain ⟨A2, c2, A3, c3, rfl, h2, h3, h4, h5⟩ := hv2
  obtain ⟨g2, hg2⟩ : ∃ g2, w2.heap.size = g2 := ⟨_, rfl⟩
  have H2 := Aside0.mk ((H1.out.call hb2).allocAt (.cells #[.int .u8 2, .int .u32 5, .int .u32 2, .int .u32 0, .int .u32 0, .slice A2 0 c2, .slice A3 0 c3] 28) g2 hg2)
  have HV : Aside0 (∀ z, MsC z 2 5 2 0 0 [] [] (.agg #[.int .u8 2, .int .u32 5, .int .u32 2, .int .u32 0, .int .u32 0, .slice A2 0 c2, .slice A3 0 c3])) := ⟨fun z => ⟨A2, c2, A3, c3, rfl, Nat.zero_le _, Nat.zero_le _, Kd.C_any0 h4 z, Kd.C_any0 h5 z⟩⟩
  clear hb2 h2 h3 h4 h5 H1 hc1
  rw [show ([] : List Int).length = 0 from rfl, show ([] : List S59).length = 0 from rfl]
  go_wp2_with (first | (refine wpList_load_row_g 28 (.tmp 1) rfl B rfl rfl 28 _ (0, 0) _ (H2.out.get (i := 1) rfl) Try.underlying28 rfl (msg_info _ _ _ _ _ _ _) ?_))
  generalize w2.alloc (.cells #[.int .u8 2, .int .u32 5, .int .u32 2, .int .u32 0, .int .u32 0, .slice A2 0 c2, .slice A3 0 c3] 28) = W at *
  clear hg2
  refine (mbytes_any 2 5 2 0 0 [] [] _ _ (MsC_zero _ _ _ _) ex_ok).mono ?_
  rintro e w3 ⟨v3, rfl, hv3, hb3⟩
  rw [ex_bytes] at hv3
  have H3 := Aside0.mk (H2.out.call hb3)
  obtain ⟨A4, c4, rfl, hc4, _⟩ := Kd.R_reads hv3
  rw [show ([2, 5, 0, 0, 0, 2, 0, 0, 0] : List Int).length = 9 from rfl]
  clear hv3 hb3 H2 hc4
  go_wp2_with (first | (refine wpList_load_row_g 28 (.tmp 1) rfl B rfl rfl 28 _ (0, 0) _ (H3.out.get (i := 1) rfl) Try.underlying28 rfl (msg_info _ _ _ _ _ _ _) ?_) | (refine wpList_load_row_g 28 (.tmp 2) rfl g2 rfl rfl 28 _ (0, 0) _ (H3.out.get (i := 0) rfl) Try.underlying28 rfl (msg_info _ _ _ _ _ _ _) ?_))
  refine (mlike_any 2 5 2 0 0 2 5 2 0 0 [] [] [] [] _ _ _ (HV.out _) (MsC_zero _ _ _ _) Bytes.nil Bytes.nil (by simp) (by simp) true (by simp)).mono ?_
  rintro e w4 ⟨rfl, hb4⟩
  have H4 := Aside0.mk (H3.out.call hb4)
  clear hb4 H3
  go_wp2_with fail
  go_ret
  exact ⟨rfl, H4.out.bel⟩
end Go.Proofs.Yticpjidcgaaldaa

namespace Go.Proofs.Yticpjidcgaaldaa
open Go.RowKit Go.Proofs.YticpjidcgaaldaaW.PrintWords Go.Proofs.YticpjidcgaaldaaW.PrintLast Go.Proofs.YticpjidcgaaldaaW.PrintMore
set_option linter.unusedVariables false
set_option linter.unusedSimpArgs false

/-! ### A row of bytes that is made -/
def row8 (l : List Int) : Array Value := (l.map (Value.int .u8)).toArray
set_option maxRecDepth 100000 in
theorem make_u8 (kl kc : IntKind) (k : Nat) (hk : k ≤ 65536) (w : World) : (Instr.makeSlice 23 (.int kl k) (.int kc k)).run Try.prog w = .ok (.slice (some ⟨w.heap.size, 0, none⟩) k k) (w.alloc (.cells (row8 (List.replicate k 0)) 5)) := by
  obtain ⟨i, hi, hz, h1, h2⟩ : ∃ i, Try.prog.info? 5 = some i ∧ i.zero = some (.int .u8 0) ∧ i.size = 1 ∧ i.bytes = 1 := by
    have := wx_info5
    cases h : Try.prog.info? 5 with
    | none => rw [h] at this; cases this
    | some i =>
      rw [h] at this
      simp at this
      exact ⟨i, rfl, this.1, this.2.1, this.2.2⟩
  have := run_makeSlice (P := Try.prog) w 23 5 i (.int .u8 0) Try.underlying23 hi hz kl kc (k : Int) (k : Int) (by omega) (by omega) (by rw [h1]; simp; omega) (by rw [h2]; omega) (by omega)
  rw [this]
  simp only [Int.toNat_natCast, h1, Nat.mul_one]
  congr 4
  apply Array.ext'
  unfold madeCells row8
  apply List.ext_getElem
  · simp
  · intro j h1 h2
    simp [Value.cells, Nat.mod_one]
theorem row8_set (l : List Int) (i : Nat) (x : Int) : (row8 l).setIfInBounds i (.int .u8 x) = row8 (l.set i x) := by
  unfold row8; rw [List.setIfInBounds_toArray, List.map_set]
/-- The first i are b, the others nought. -/
def fillL (k i : Nat) (b : Int) : List Int := List.replicate i b ++ List.replicate (k - i) 0
theorem fillL_zero (k : Nat) (b : Int) : fillL k 0 b = List.replicate k 0 := by unfold fillL; simp
theorem fillL_all (k : Nat) (b : Int) : fillL k k b = List.replicate k b := by unfold fillL; simp
theorem fillL_step {k i : Nat} {b : Int} (h : i < k) : (fillL k i b).set i b = fillL k (i + 1) b := by
  unfold fillL
  rw [List.set_append_right _ _ (by simp), List.length_replicate, Nat.sub_self, show k - i = (k - (i + 1)) + 1 by omega, List.replicate_succ, List.set_cons_zero, List.replicate_succ', List.append_assoc]
  rfl
theorem fillL_at {k i : Nat} {b : Int} (h : i < k) : (row8 (fillL k i b))[i]? = some (.int .u8 0) := by
  unfold row8 fillL
  simp only [List.getElem?_toArray, List.getElem?_map]
  rw [List.getElem?_append_right (by simp), List.length_replicate, Nat.sub_self, show k - i = (k - (i + 1)) + 1 by omega, List.replicate_succ]
  rfl
end Go.Proofs.Yticpjidcgaaldaa

namespace Go.Proofs.Yticpjidcgaaldaa
open Go.RowKit Go.Proofs.YticpjidcgaaldaaW.PrintWords Go.Proofs.YticpjidcgaaldaaW.PrintLast Go.Proofs.YticpjidcgaaldaaW.PrintMore
set_option linter.unusedVariables false
set_option linter.unusedSimpArgs false

set_option maxRecDepth 100000 in
set_option maxHeartbeats 16000000 in
theorem ends_walk (ep0 sq0 nx0 bt0 s0 b0 how : Int) (w00 : World) (hep : 0 ≤ ep0 ∧ ep0 ≤ 65535) (hsq : 0 ≤ sq0 ∧ sq0 ≤ 65535) (hnx : 0 ≤ nx0 ∧ nx0 ≤ 65535) (hbt : 0 ≤ bt0 ∧ bt0 ≤ 4294967295) (hs : 0 ≤ s0 ∧ s0 ≤ 255) (hb : 0 ≤ b0 ∧ b0 ≤ 255) (hh : 0 ≤ how ∧ how ≤ 255) :
    Calls Try.prog 9 #[.int .u16 ep0, .int .u16 sq0, .int .u16 nx0, .int .u32 bt0, .int .u8 s0, .int .u8 b0, .int .u8 how] w00 fun e w' => e = .returned (.bool true) ∧ Below w00.heap.size w00 w' := by
  obtain ⟨ep, rfl⟩ : ∃ x : Nat, ep0 = (x : Int) := ⟨ep0.toNat, by omega⟩
  obtain ⟨sq, rfl⟩ : ∃ x : Nat, sq0 = (x : Int) := ⟨sq0.toNat, by omega⟩
  obtain ⟨nx, rfl⟩ : ∃ x : Nat, nx0 = (x : Int) := ⟨nx0.toNat, by omega⟩
  obtain ⟨bt, rfl⟩ : ∃ x : Nat, bt0 = (x : Int) := ⟨bt0.toNat, by omega⟩
  obtain ⟨s, rfl⟩ : ∃ x : Nat, s0 = (x : Int) := ⟨s0.toNat, by omega⟩
  have HE : Aside0 (ep < 65536 ∧ sq < 65536 ∧ nx < 65536 ∧ bt < 4294967296) := ⟨by omega⟩
  have HBB := Aside0.mk hb
  obtain ⟨k, hk⟩ : ∃ k, s % 70 = k := ⟨_, rfl⟩
  have hk70 : k < 70 := by rw [← hk]; exact Nat.mod_lt _ (by omega)
  have hsk : (s : Int) % 70 = (k : Int) := by omega
  have hs0 : (0 : Int) ≤ s := by omega
  have hs1 : (s : Int) ≤ 255 := hs.2
  have hh0 := hh.1
  have hh1 := hh.2
  obtain ⟨fi, hfi⟩ : ∃ fi, (how % 2 == 1) = fi := ⟨_, rfl⟩
  obtain ⟨la, hla⟩ : ∃ la, (how / 2 % 2 == 1) = la := ⟨_, rfl⟩
  have HFI := Aside0.mk (And.intro hfi hla)
  have hmk : ∀ w : World, (Instr.makeSlice 23 (.int .u8 k) (.int .u8 k)).run Try.prog w = .ok (.slice (some ⟨w.heap.size, 0, none⟩) k k) (w.alloc (.cells (row8 (List.replicate k 0)) 5)) := fun w => make_u8 .u8 .u8 k (by omega) w
  have HK := Aside0.mk hk70
  obtain ⟨B, hB⟩ : ∃ B, w00.heap.size = B := ⟨_, rfl⟩
  have H00 := Aside0.mk (Hp.start w00)
  rw [hB] at H00
  rw [hB]
  have HB := Aside0.mk hB
  have hz8 := zero_frame
  clear hep hsq hnx hbt hs hb hh hB hk hfi hla
  go_enter Try.func9, Try.ntmps9
  go_wp2_with fail
  refine (awake11_any _).mono ?_
  rintro e w1 ⟨rfl, hb1⟩
  have H1 := Aside0.mk (H00.out.call hb1)
  clear hb1 H00
  obtain ⟨g15, hg15⟩ : ∃ g, w1.heap.size = g := ⟨_, rfl⟩
  have H2 : Aside0 (Hp B w00 (w1.alloc (.cells (row8 (List.replicate k 0)) 5)) [(g15, .cells (row8 (fillL k 0 b0)) 5 (0, 0))] []) := ⟨by rw [fillL_zero]; exact H1.out.allocAt _ g15 hg15⟩
  clear H1
  go_wp2_with fail
  generalize w1.alloc (.cells (row8 (List.replicate k 0)) 5) = W2 at *
  clear hg15 hmk hsk hs0 hs1
  go_loopw [28] (fun v28 wr => ∃ i : Nat, i ≤ k ∧ v28 = .int .i64 i ∧ Aside0 (Hp B w00 wr [(g15, .cells (row8 (fillL k i b0)) 5 (0, 0))] [])) (fun v28 _ => k - (intOf v28).toNat)
  case atStart => exact ⟨0, by omega, rfl, H2⟩
  case round =>
    clear H2
    obtain ⟨i, hi, rfl, H⟩ := hrel
    by_cases hlt : i < k
    · have d1 : decide (i < k) = true := decide_eq_true hlt
      have hik : (i : Int) < k := by omega
      have hi0 : (0 : Int) ≤ i := by omega
      have c0 : wr.cell? ⟨g15, i, none⟩ = some (.int .u8 0) := (blk_cell (H.out.get (i := 0) rfl) i).trans (fillL_at hlt)
      have f0 := blk_frozen (H.out.get (i := 0) rfl) i
      have H2 : Aside0 (Hp B w00 (wr.setCell ⟨g15, i, none⟩ (.int .u8 b0)) [(g15, .cells (row8 (fillL k (i + 1) b0)) 5 (0, 0))] []) := ⟨by
        have := H.out.setCell (i := 0) rfl i (.int .u8 b0)
        rw [row8_set, fillL_step hlt] at this
        exact this⟩
      clear H
      go_wp2_with fail
      go_roundw
      case rel => exact ⟨i + 1, by omega, by go_num, H2⟩
      case measure => simp [intOf]; omega
    · obtain rfl : i = k := by omega
      have d1 : decide (i < i) = false := decide_eq_false (by omega)
      obtain ⟨D, hD⟩ : ∃ D, fillL i i b0 = D := ⟨_, rfl⟩
      have HDL : Aside0 (D.length = i ∧ Bytes D) := ⟨by
        rw [← hD, fillL_all]
        exact ⟨by simp, fun y hy => by have := HBB.out; rw [(List.mem_replicate.1 hy).2]; omega⟩⟩
      have H3 := Aside0.mk H.out
      rw [hD] at H3
      have HDC : Aside0 (∀ z : World, z.heap[g15]? = some (.cells (row8 D) 5 (0, 0)) → (Kd.int .u8).C z (some ⟨g15, 0, none⟩) i D) := ⟨fun z hz => C_of_block (k := .u8) hz ⟨rfl, HDL.out.1, by have := HK.out; omega⟩⟩
      clear H hD hi hlt
      obtain ⟨g17, hg17⟩ : ∃ g, wr.heap.size = g := ⟨_, rfl⟩
      have H4 := Aside0.mk (H3.out.allocAt (.cells #[.int .u16 ep, .int .u16 sq, .int .u16 nx, .int .u32 bt, .bool fi, .bool la, .bool false, .slice (some ⟨g15, 0, none⟩) i i] 72) g17 hg17)
      clear H3
      obtain ⟨q1, q2⟩ := HFI.out
      go_wp2_with fail
      generalize wr.alloc (.cells #[.int .u16 ep, .int .u16 sq, .int .u16 nx, .int .u32 bt, .bool fi, .bool la, .bool false, .slice (some ⟨g15, 0, none⟩) i i] 72) = W4 at *
      clear hg17 q1 q2 hh0 hh1
      have HFR : Aside0 (∀ z : World, z.heap[g15]? = some (.cells (row8 D) 5 (0, 0)) → FrC z ep sq nx bt fi la false D (.agg #[.int .u16 ep, .int .u16 sq, .int .u16 nx, .int .u32 bt, .bool fi, .bool la, .bool false, .slice (some ⟨g15, 0, none⟩) i i])) := ⟨fun z hz => ⟨some ⟨g15, 0, none⟩, i, by rw [HDL.out.1], by rw [HDL.out.1]; exact Nat.le_refl _, by rw [HDL.out.1]; exact HDC.out z hz⟩⟩
      have KB := Aside0.mk (fbytes_any ep sq nx bt fi la false D _ W4 (HFR.out W4 (H4.out.get (i := 1) rfl)) HE.out HDL.out.2)
      have hrt : rightF sq D.length fi la false = decide (i ≤ 64) := by rw [HDL.out.1]; rfl
      refine KB.out.mono ?_
      rintro e w5 ⟨v5, rfl, hv5, hb5⟩
      clear KB
      by_cases h64 : i ≤ 64
      · have hr : rightF sq D.length fi la false = true := by rw [hrt]; exact decide_eq_true h64
        have hle : ¬ (64 : Int) < (i : Int) := by omega
        have hpf := parseF_back ep sq nx bt fi la false D HE.out hr
        have hlen := fBytes_len (ep := ep) (nx := nx) (bt := bt) hr
        have hfbb := fBytes_bytes ep sq nx bt fi la false D HDL.out.2
        obtain ⟨fb, hfb⟩ : ∃ fb, fBytes ep sq nx bt fi la false D = fb := ⟨_, rfl⟩
        rw [hfb] at hpf hlen hfbb hv5
        have H5 := Aside0.mk (H4.out.row hb5 hv5)
        obtain ⟨Ab, cb, rfl, hcb, _⟩ := Kd.R_reads hv5
        obtain ⟨bl, hbl⟩ : ∃ bl, fb.length = bl := ⟨_, rfl⟩
        rw [hbl] at H5 hcb hlen
        rw [hbl]
        rw [HDL.out.1] at hlen
        have HFB := Aside0.mk (And.intro hcb (And.intro hpf (And.intro hfbb hlen)))
        clear hv5 hb5 hcb hpf hfbb hlen hfb hbl H4 hr hrt
        go_wp2_with fail
        refine (fparse_any Ab bl cb fb w5 (Ru_C (H5.out.fact (i := 0) rfl)).2.2 HFB.out.1 (by have := HFB.out.2.2.2; have := HK.out; omega) HFB.out.2.2.1).mono ?_
        rintro e w6 ⟨⟨v6, rfl, hv6⟩, hb6⟩
        rw [HFB.out.2.1] at hv6 ⊢
        simp only at hv6
        obtain ⟨A7, c7, rfl, hc7, hC7⟩ := hv6
        rw [HDL.out.1] at hc7 hC7
        rw [HDL.out.1]
        obtain ⟨g19, hg19⟩ : ∃ g, w6.heap.size = g := ⟨_, rfl⟩
        have H6 := Aside0.mk ((H5.out.call hb6).allocAt (.cells #[.int .u16 ep, .int .u16 sq, .int .u16 nx, .int .u32 bt, .bool fi, .bool la, .bool false, .slice A7 i c7] 72) g19 hg19)
        have HY : Aside0 (FrC (w6.alloc (.cells #[.int .u16 ep, .int .u16 sq, .int .u16 nx, .int .u32 bt, .bool fi, .bool la, .bool false, .slice A7 i c7] 72)) ep sq nx bt fi la false D (.agg #[.int .u16 ep, .int .u16 sq, .int .u16 nx, .int .u32 bt, .bool fi, .bool la, .bool false, .slice A7 i c7])) := ⟨A7, c7, by rw [HDL.out.1], by rw [HDL.out.1]; exact hc7, by rw [HDL.out.1]; exact Kd.C_alloc hC7 _⟩
        have hbl : (17 : Int) + (i : Int) = (bl : Int) := by have := HFB.out.2.2.2; omega
        clear hb6 hc7 hC7 H5
        go_wp2_with (first | (refine wpList_load_row_g 72 (.tmp 17) rfl g17 rfl rfl 72 _ (0, 0) _ (H6.out.get (i := 1) rfl) Try.underlying72 rfl (frame_info _ _ _ _ _ _ _ _) ?_) | (refine wpList_load_row_g 72 (.tmp 19) rfl g19 rfl rfl 72 _ (0, 0) _ (H6.out.get (i := 0) rfl) Try.underlying72 rfl (frame_info _ _ _ _ _ _ _ _) ?_))
        generalize w6.alloc (.cells #[.int .u16 ep, .int .u16 sq, .int .u16 nx, .int .u32 bt, .bool fi, .bool la, .bool false, .slice A7 i c7] 72) = W6 at *
        clear hg19 hbl
        refine (fsame_any ep sq nx bt ep sq nx bt fi la false fi la false D D _ _ W6 HY.out (HFR.out W6 (H6.out.get (i := 2) rfl)) HDL.out.2 HDL.out.2 true (by simp)).mono ?_
        rintro e w7 ⟨rfl, hb7⟩
        have H7 := Aside0.mk (H6.out.call hb7)
        clear hb7 H6 HY
        have y0 := blk_cell (H7.out.get (i := 0) rfl) 0
        have y1 := blk_cell (H7.out.get (i := 0) rfl) 1
        have y2 := blk_cell (H7.out.get (i := 0) rfl) 2
        have y3 := blk_cell (H7.out.get (i := 0) rfl) 3
        have y6 := blk_cell (H7.out.get (i := 0) rfl) 6
        have x2 := blk_cell (H7.out.get (i := 1) rfl) 2
        have x3 := blk_cell (H7.out.get (i := 1) rfl) 3
        go_wp2_with fail
        go_ret
        exact ⟨rfl, H7.out.bel⟩
      · have hr : rightF sq D.length fi la false = false := by rw [hrt]; exact decide_eq_false h64
        have hle : (64 : Int) < (i : Int) := by omega
        have hfb : fBytes ep sq nx bt fi la false D = [] := fBytes_no hr
        rw [hfb] at hv5
        have H5 := Aside0.mk (H4.out.call hb5)
        obtain ⟨Ab, cb, rfl, _, _⟩ := Kd.R_reads hv5
        rw [show ([] : List Int).length = 0 from rfl]
        clear hv5 hb5 hfb hr hrt H4
        go_wp2_with fail
        go_ret
        exact ⟨rfl, H5.out.bel⟩
end Go.Proofs.Yticpjidcgaaldaa
