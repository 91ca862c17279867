/- The parts of this proof, one behind the other: contracts of the functions, plain laws, the walk. -/
import Derived.Test.YtkhlalpkkmjfnaaMtb
namespace Go.Proofs.Ytkhlalpkkmjfnaa
open Go.RowKit Go.Proofs.YtkhlalpkkmjfnaaW.PrintWords Go.Proofs.YtkhlalpkkmjfnaaW.PrintLast Go.Proofs.YtkhlalpkkmjfnaaW.PrintMore
set_option linter.unusedVariables false
set_option linter.unusedSimpArgs false

/-- A block that isn't the pen's. -/
theorem PPut.blk {w w' : World} {base g gc : Nat} {v v' : Value} {p' : List Int} {o : Obj} (h : PPut w w' base g v p' v') (hb : w.heap[gc]? = some o) (hne : gc ≠ g) (hv : v.ownBlock ≠ some gc) : w'.heap[gc]? = some o ∧ v'.ownBlock ≠ some gc := by
  refine ⟨h.2.1.blk hb hne (fun e => hv e.symm), fun e => ?_⟩
  rcases h.2.2.1 with h1 | h1 | ⟨b, h1, h2⟩
  · rw [h1] at e; cases e
  · exact hv (h1 ▸ e)
  · rw [h1] at e
    have := blk_lt hb
    injection e; omega

set_option maxRecDepth 100000 in
set_option maxHeartbeats 8000000 in
theorem dbytes_no (tk hs : Int) (A A2 : Option Addr) (n c m c2 : Nat) (P : List Int) (C : List S30) (w : World) (hp : (Kd.int .u8).C w A n P) (hc : n ≤ c) (hC : k30.C w A2 m C) (hc2 : m ≤ c2) (hP : Bytes P) (hl : n < 4611686018427387904) (hr : rightB P m = false) :
    Calls Try.prog 14 #[.agg #[.int .u32 tk, .int .u32 hs, .slice A n c, .slice A2 m c2]] w fun e w' => e = .returned (.slice none 0 0) ∧ Below w.heap.size w w' := by
  obtain rfl := hp.1
  obtain rfl := hC.1
  have H0 := Aside0.mk ((Hp.start w).alloc (.cells #[.int .u32 tk, .int .u32 hs, .slice A P.length c, .slice A2 C.length c2] 41))
  have hb0 := below_alloc (Below.refl w.heap.size w) (.cells #[.int .u32 tk, .int .u32 hs, .slice A P.length c, .slice A2 C.length c2] 41)
  have KEY := Aside0.mk (right_any tk hs A A2 c c2 P C _ (Kd.C_below hp hb0) hc (Kd.C_below hC hb0) hc2 hP hl)
  rw [hr] at KEY
  generalize P.length = n at *
  generalize C.length = m at *
  clear hp hC hb0 hP hl hr hc hc2
  go_enter Try.func14, Try.ntmps14
  go_wp2_with (first | (refine wpList_load_row_g 41 (.tmp 1) rfl (w.heap.size) rfl rfl 41 _ (0, 0) _ (H0.out.get (i := 0) rfl) Try.underlying41 rfl (delta_info _ _ _ _) ?_))
  refine KEY.out.mono ?_
  rintro e w1 ⟨rfl, hb1⟩
  have H1 := Aside0.mk (H0.out.call hb1)
  clear hb1 KEY H0
  go_wp2_with fail
  go_ret
  exact ⟨rfl, H1.out.bel⟩

set_option maxRecDepth 100000 in
set_option maxHeartbeats 8000000 in
theorem dbytes_yes (tk hs : Nat) (A A2 : Option Addr) (n c m c2 : Nat) (P : List Int) (C : List S30) (w : World) (hp : (Kd.int .u8).C w A n P) (hc : n ≤ c) (hC : k30.C w A2 m C) (hc2 : m ≤ c2) (hr : rightB P m = true) (htk : tk < 4294967296) (hhs : hs < 4294967296) (hU : ∀ x ∈ C, U32 x.f1) :
    Calls Try.prog 14 #[.agg #[.int .u32 tk, .int .u32 hs, .slice A n c, .slice A2 m c2]] w fun e w' => ∃ v, e = .returned v ∧ (Kd.int .u8).R 5 w' w.heap.size (fun _ => True) v (dBytes tk hs P C) ∧ Below w.heap.size w w' := by
  obtain ⟨hr1, hr2⟩ : risB (-1) P = true ∧ P.length = m := by
    unfold rightB at hr
    simp only [Bool.and_eq_true, beq_iff_eq] at hr
    exact hr
  obtain ⟨q1, q2, q3⟩ := risB_le (by omega) (by omega) hr1
  obtain rfl := hp.1
  have hCl := hC.1
  have hn48 : P.length ≤ 48 := by omega
  have HPC : Aside0 (P.length = m ∧ C.length = m ∧ m ≤ 48) := ⟨hr2, hCl, by omega⟩
  have hb0 := below_alloc (Below.refl w.heap.size w) (.cells #[.int .u32 tk, .int .u32 hs, .slice A P.length c, .slice A2 m c2] 41)
  have KEY := Aside0.mk (by have := right_any tk hs A A2 c c2 P C _ (Kd.C_below hp hb0) hc (by rw [hCl]; exact Kd.C_below hC hb0) (by rw [hCl]; exact hc2) q2 (by omega); rw [hCl, hr] at this; exact this)
  have HTK := Aside0.mk htk
  have HHS := Aside0.mk hhs
  have HU := Aside0.mk hU
  have HB := Aside0.mk q2
  have HF : Aside0 (∀ z, Below w.heap.size w z → (Kd.int .u8).C z A P.length P ∧ k30.C z A2 m C) := ⟨fun z hb => ⟨Kd.C_below hp hb, Kd.C_below hC hb⟩⟩
  have H0 := Aside0.mk ((Hp.start w).alloc (.cells #[.int .u32 tk, .int .u32 hs, .slice A P.length c, .slice A2 m c2] 41))
  generalize hn : P.length = n at *
  have HNP := Aside0.mk hn
  clear hp hC hb0 hc hc2 hr hr1 hr2 q1 q2 q3 htk hhs hU hCl hn
  go_enter Try.func14, Try.ntmps14
  go_wp2_with (first | (refine wpList_load_row_g 41 (.tmp 1) rfl (w.heap.size) rfl rfl 41 _ (0, 0) _ (H0.out.get (i := 0) rfl) Try.underlying41 rfl (delta_info _ _ _ _) ?_))
  refine KEY.out.mono ?_
  rintro e V0 ⟨rfl, hb1⟩
  have H1 := Aside0.mk (H0.out.call hb1)
  clear hb1 KEY H0
  go_wp2_with fail
  obtain ⟨gd, hgd⟩ : ∃ gd, w.heap.size = gd := ⟨_, rfl⟩
  rw [hgd] at H1
  rw [hgd]
  obtain ⟨gp, hgp⟩ : ∃ gp, V0.heap.size = gp := ⟨_, rfl⟩
  rw [hgp]
  have HGD := Aside0.mk hgd
  have GD : Aside0 (gd < gp) := ⟨by rw [← hgp]; exact H1.out.lt (i := 0) rfl⟩
  have hP0 : Pn (V0.alloc (.cells #[.slice none 0 0] 81)) gp gp [] (.slice none 0 0) := ⟨by rw [← hgp]; exact blk_new _ _, Kd.R_nil _ _ _ _ _⟩
  have HP0 := Aside0.mk hP0
  have HB0 : Aside0 (Below gp V0 (V0.alloc (.cells #[.slice none 0 0] 81))) := ⟨by rw [← hgp]; exact below_alloc (Below.refl _ _) _⟩
  have HV0 : Aside0 (V0.heap.size = gp) := ⟨hgp⟩
  have HG0 := Aside0.mk (H1.out.get (i := 0) rfl)
  have HF0 : Aside0 (∀ z, Below gp V0 z → (Kd.int .u8).C z A n P ∧ k30.C z A2 m C) := ⟨fun z hz => HF.out z (by rw [HGD.out]; exact H1.out.bel.trans (hz.mono (Nat.le_of_lt GD.out)))⟩
  have IX : Aside0 (IntKind.u8.wrap (n : Int) = ((n % 256 : Nat) : Int)) := ⟨by rw [IntWalk.u8_in _ (by have := HPC.out; omega)]; have := HPC.out; omega⟩
  clear hP0 hgd hgp HF
  generalize hV : V0.alloc (.cells #[.slice none 0 0] 81) = V1 at *
  clear hV
  refine regionS (W := V1)
    [fun _ v => v = .pointer (some ⟨gd, 0, none⟩),
     fun _ v => v = .int .u32 tk,
     fun _ v => v = .pointer (some ⟨gp, 0, none⟩),
     fun _ v => v = .pointer (some ⟨gd, 1, none⟩),
     fun _ v => v = .int .u32 hs,
     fun _ v => v = .pointer (some ⟨gp, 0, none⟩),
     fun _ v => v = .pointer (some ⟨gd, 2, none⟩),
     fun _ v => v = .slice A n c,
     fun _ v => v = .int .i64 n,
     fun _ v => v = .int .u8 ((n % 256 : Nat) : Int),
     fun _ v => v = .pointer (some ⟨gp, 0, none⟩)]
    [2, 5, 10]
    (fun t => match t with | 0 => fun (rs : List Value) (w : World) => ∃ v, Pn w gp gp [] v | 1 => fun (rs : List Value) (w : World) => ∃ v, Pn w gp gp (lowN tk 4) v | 2 => fun (rs : List Value) (w : World) => ∃ v, Pn w gp gp (lowN tk 4 ++ lowN hs 4) v | 3 => fun (rs : List Value) (w : World) => ∃ v, Pn w gp gp (dHead tk hs n) v | _ => fun _ _ => False)
    (fun _ _ _ => True) (fun w => Below gp V0 w ∧ gp ≤ w.heap.size)
    (fun j =>  none)
    [(0, some 9), (1, some 10), (2, some 11), (3, some 12), (4, some 13), (5, some 14), (6, some 15), (7, some 16), (8, some 17), (9, some 18), (10, some 19)]
    []
    (by kernel_rfl) (by kernel_rfl) (by kernel_rfl) (by kernel_rfl) (by kernel_rfl) ?z4_1c ?z4_1i ?z4_1b ?z4_1d ?z4_1g ⟨?z4_1t0, ?z4_1t1, ?z4_1t2, ?z4_1t3, ?z4_1t4, ?z4_1t5, ?z4_1t6, ?z4_1t7, ?z4_1t8, ?z4_1t9, ?z4_1t10, trivial⟩ ⟨?z4_1o0, ?z4_1o1, ?z4_1o2, ?z4_1o3, ?z4_1o4, ?z4_1o5, ?z4_1o6, ?z4_1o7, ?z4_1o8, ?z4_1o9, ?z4_1o10, trivial⟩ ?z4_1e
  case z4_1c => exact ⟨HB0.out.trans (below_drew (Below.refl _ _)), by have := blk_lt HP0.out.1; exact Nat.le_of_lt this⟩
  case z4_1i => exact ⟨_, HP0.out⟩
  case z4_1b => intro w w' hb h; exact ⟨h.1.trans (hb.mono h.2), Nat.le_trans h.2 hb.size⟩
  case z4_1d =>
    intro t rs w w' hb h
    match t, h with
    | 0, h => (replace h : ∃ v, Pn w gp gp [] v := h); show ∃ v, Pn w' gp gp [] v; (obtain ⟨v, h⟩ := h; exact ⟨v, h.below hb⟩)
    | 1, h => (replace h : ∃ v, Pn w gp gp (lowN tk 4) v := h); show ∃ v, Pn w' gp gp (lowN tk 4) v; (obtain ⟨v, h⟩ := h; exact ⟨v, h.below hb⟩)
    | 2, h => (replace h : ∃ v, Pn w gp gp (lowN tk 4 ++ lowN hs 4) v := h); show ∃ v, Pn w' gp gp (lowN tk 4 ++ lowN hs 4) v; (obtain ⟨v, h⟩ := h; exact ⟨v, h.below hb⟩)
    | 3, h => (replace h : ∃ v, Pn w gp gp (dHead tk hs n) v := h); show ∃ v, Pn w' gp gp (dHead tk hs n) v; (obtain ⟨v, h⟩ := h; exact ⟨v, h.below hb⟩)
    | _ + 4, h => exact h.elim
  case z4_1g =>
    intro j hj; cases hj
  case z4_1t0 => exact StabS.const _ _ _ _
  case z4_1t1 => exact StabS.const _ _ _ _
  case z4_1t2 => exact StabS.const _ _ _ _
  case z4_1t3 => exact StabS.const _ _ _ _
  case z4_1t4 => exact StabS.const _ _ _ _
  case z4_1t5 => exact StabS.const _ _ _ _
  case z4_1t6 => exact StabS.const _ _ _ _
  case z4_1t7 => exact StabS.const _ _ _ _
  case z4_1t8 => exact StabS.const _ _ _ _
  case z4_1t9 => exact StabS.const _ _ _ _
  case z4_1t10 => exact StabS.const _ _ _ _
  case z4_1o0 =>
    intro vs w t hC ht1 ht2 hS hV
    rw [if_pos (by kernel_rfl)]
    generalize hρ : rho _ _ _ vs = ρ
    have e1 : ρ (.tmp 1) = .pointer (some ⟨gd, 0, none⟩) := by rw [← hρ]; kernel_rfl
    clear hρ hV
    refine runs_val (v := .pointer (some ⟨gd, 0, none⟩)) (w' := w) ?_ ⟨Below.refl _ _, rfl⟩
    clear ht1 ht2 hS hC
    go_simp <;> (first | exact IntWalk.u64_in _ (by omega) | exact IntWalk.u32_in _ (by omega) | exact IntWalk.u16_in _ (by omega) | exact IntWalk.u8_in _ (by omega) | exact IntWalk.i64_in _ (by omega) | skip)
  case z4_1o1 =>
    intro vs w t hC ht1 ht2 hS hV
    rw [if_pos (by kernel_rfl)]
    generalize hρ : rho _ _ _ vs = ρ
    have d9 : (vs 0) = .pointer (some ⟨gd, 0, none⟩) := hV 0 (by kernel_rfl)
    have e9 : ρ (.tmp 9) = vs 0 := by rw [← hρ]; kernel_rfl
    rw [d9] at e9; clear d9
    clear hρ hV
    have c0 := blk_cell ((hC.1.block gd GD.out).trans HG0.out) 0
    refine runs_val (v := .int .u32 tk) (w' := w) ?_ ⟨Below.refl _ _, rfl⟩
    clear ht1 ht2 hS hC
    go_simp
  case z4_1o2 =>
    intro vs w hC hS hV
    replace hS : ∃ v, Pn w gp gp [] v := hS
    rw [if_pos (by kernel_rfl)]
    generalize hρ : rho _ _ _ vs = ρ
    have e3 : ρ (.tmp 3) = .pointer (some ⟨gp, 0, none⟩) := by rw [← hρ]; kernel_rfl
    have d10 : (vs 1) = .int .u32 tk := hV 1 (by kernel_rfl)
    have e10 : ρ (.tmp 10) = vs 1 := by rw [← hρ]; kernel_rfl
    rw [d10] at e10; clear d10
    have ef38 : ρ (.func 38) = .func (.func 38) #[] #[] := by rw [← hρ]; rfl
    clear hρ hV
    obtain ⟨v, hp⟩ := hS
    refine runs_call (f := 38) (args := #[.pointer (some ⟨gp, 0, none⟩), .int .u32 tk]) (w' := w) ?_ ?_
    · go_simp
    · refine (pword_any gp gp [] v tk HTK.out w hp (Nat.le_refl _) (by simp)).mono ?_
      rintro e w5 ⟨v', rfl, h⟩
      exact ⟨_, rfl, ⟨hC.1.trans h.2.2.2, Nat.le_trans hC.2 h.2.1.1⟩, trivial, rfl, ⟨v', h.1⟩⟩
  case z4_1o3 =>
    intro vs w t hC ht1 ht2 hS hV
    rw [if_pos (by kernel_rfl)]
    generalize hρ : rho _ _ _ vs = ρ
    have e1 : ρ (.tmp 1) = .pointer (some ⟨gd, 0, none⟩) := by rw [← hρ]; kernel_rfl
    clear hρ hV
    refine runs_val (v := .pointer (some ⟨gd, 1, none⟩)) (w' := w) ?_ ⟨Below.refl _ _, rfl⟩
    clear ht1 ht2 hS hC
    go_simp <;> (first | exact IntWalk.u64_in _ (by omega) | exact IntWalk.u32_in _ (by omega) | exact IntWalk.u16_in _ (by omega) | exact IntWalk.u8_in _ (by omega) | exact IntWalk.i64_in _ (by omega) | skip)
  case z4_1o4 =>
    intro vs w t hC ht1 ht2 hS hV
    rw [if_pos (by kernel_rfl)]
    generalize hρ : rho _ _ _ vs = ρ
    have d12 : (vs 3) = .pointer (some ⟨gd, 1, none⟩) := hV 3 (by kernel_rfl)
    have e12 : ρ (.tmp 12) = vs 3 := by rw [← hρ]; kernel_rfl
    rw [d12] at e12; clear d12
    clear hρ hV
    have c0 := blk_cell ((hC.1.block gd GD.out).trans HG0.out) 1
    refine runs_val (v := .int .u32 hs) (w' := w) ?_ ⟨Below.refl _ _, rfl⟩
    clear ht1 ht2 hS hC
    go_simp
  case z4_1o5 =>
    intro vs w hC hS hV
    replace hS : ∃ v, Pn w gp gp (lowN tk 4) v := hS
    rw [if_pos (by kernel_rfl)]
    generalize hρ : rho _ _ _ vs = ρ
    have d11 : (vs 2) = .pointer (some ⟨gp, 0, none⟩) := hV 2 (by kernel_rfl)
    have e11 : ρ (.tmp 11) = vs 2 := by rw [← hρ]; kernel_rfl
    rw [d11] at e11; clear d11
    have d13 : (vs 4) = .int .u32 hs := hV 4 (by kernel_rfl)
    have e13 : ρ (.tmp 13) = vs 4 := by rw [← hρ]; kernel_rfl
    rw [d13] at e13; clear d13
    have ef38 : ρ (.func 38) = .func (.func 38) #[] #[] := by rw [← hρ]; rfl
    clear hρ hV
    obtain ⟨v, hp⟩ := hS
    refine runs_call (f := 38) (args := #[.pointer (some ⟨gp, 0, none⟩), .int .u32 hs]) (w' := w) ?_ ?_
    · go_simp
    · refine (pword_any gp gp (lowN tk 4) v hs HHS.out w hp (Nat.le_refl _) (by rw [lowN_length]; omega)).mono ?_
      rintro e w5 ⟨v', rfl, h⟩
      exact ⟨_, rfl, ⟨hC.1.trans h.2.2.2, Nat.le_trans hC.2 h.2.1.1⟩, trivial, rfl, ⟨v', h.1⟩⟩
  case z4_1o6 =>
    intro vs w t hC ht1 ht2 hS hV
    rw [if_pos (by kernel_rfl)]
    generalize hρ : rho _ _ _ vs = ρ
    have e1 : ρ (.tmp 1) = .pointer (some ⟨gd, 0, none⟩) := by rw [← hρ]; kernel_rfl
    clear hρ hV
    refine runs_val (v := .pointer (some ⟨gd, 2, none⟩)) (w' := w) ?_ ⟨Below.refl _ _, rfl⟩
    clear ht1 ht2 hS hC
    go_simp <;> (first | exact IntWalk.u64_in _ (by omega) | exact IntWalk.u32_in _ (by omega) | exact IntWalk.u16_in _ (by omega) | exact IntWalk.u8_in _ (by omega) | exact IntWalk.i64_in _ (by omega) | skip)
  case z4_1o7 =>
    intro vs w t hC ht1 ht2 hS hV
    rw [if_pos (by kernel_rfl)]
    generalize hρ : rho _ _ _ vs = ρ
    have d15 : (vs 6) = .pointer (some ⟨gd, 2, none⟩) := hV 6 (by kernel_rfl)
    have e15 : ρ (.tmp 15) = vs 6 := by rw [← hρ]; kernel_rfl
    rw [d15] at e15; clear d15
    clear hρ hV
    have c0 := blk_cell ((hC.1.block gd GD.out).trans HG0.out) 2
    refine runs_val (v := .slice A n c) (w' := w) ?_ ⟨Below.refl _ _, rfl⟩
    clear ht1 ht2 hS hC
    go_simp
  case z4_1o8 =>
    intro vs w t hC ht1 ht2 hS hV
    rw [if_pos (by kernel_rfl)]
    generalize hρ : rho _ _ _ vs = ρ
    have d16 : (vs 7) = .slice A n c := hV 7 (by kernel_rfl)
    have e16 : ρ (.tmp 16) = vs 7 := by rw [← hρ]; kernel_rfl
    rw [d16] at e16; clear d16
    clear hρ hV
    refine runs_val (v := .int .i64 n) (w' := w) ?_ ⟨Below.refl _ _, rfl⟩
    clear ht1 ht2 hS hC
    go_simp <;> (first | exact IntWalk.u64_in _ (by omega) | exact IntWalk.u32_in _ (by omega) | exact IntWalk.u16_in _ (by omega) | exact IntWalk.u8_in _ (by omega) | exact IntWalk.i64_in _ (by omega) | skip)
  case z4_1o9 =>
    intro vs w t hC ht1 ht2 hS hV
    rw [if_pos (by kernel_rfl)]
    generalize hρ : rho _ _ _ vs = ρ
    have d17 : (vs 8) = .int .i64 n := hV 8 (by kernel_rfl)
    have e17 : ρ (.tmp 17) = vs 8 := by rw [← hρ]; kernel_rfl
    rw [d17] at e17; clear d17
    clear hρ hV
    have ix := IX.out
    refine runs_val (v := .int .u8 ((n % 256 : Nat) : Int)) (w' := w) ?_ ⟨Below.refl _ _, rfl⟩
    clear ht1 ht2 hS hC
    rw [← ix]
    clear ix
    go_simp
  case z4_1o10 =>
    intro vs w hC hS hV
    replace hS : ∃ v, Pn w gp gp (lowN tk 4 ++ lowN hs 4) v := hS
    rw [if_pos (by kernel_rfl)]
    generalize hρ : rho _ _ _ vs = ρ
    have d14 : (vs 5) = .pointer (some ⟨gp, 0, none⟩) := hV 5 (by kernel_rfl)
    have e14 : ρ (.tmp 14) = vs 5 := by rw [← hρ]; kernel_rfl
    rw [d14] at e14; clear d14
    have d18 : (vs 9) = .int .u8 ((n % 256 : Nat) : Int) := hV 9 (by kernel_rfl)
    have e18 : ρ (.tmp 18) = vs 9 := by rw [← hρ]; kernel_rfl
    rw [d18] at e18; clear d18
    have ef39 : ρ (.func 39) = .func (.func 39) #[] #[] := by rw [← hρ]; rfl
    clear hρ hV
    obtain ⟨v, hp⟩ := hS
    refine runs_call (f := 39) (args := #[.pointer (some ⟨gp, 0, none⟩), .int .u8 ((n % 256 : Nat) : Int)]) (w' := w) ?_ ?_
    · go_simp
    · refine (pbyte_any gp gp (lowN tk 4 ++ lowN hs 4) v _ w hp (Nat.le_refl _) (by rw [List.length_append, lowN_length, lowN_length]; omega)).mono ?_
      rintro e w5 ⟨v', rfl, h⟩
      exact ⟨_, rfl, ⟨hC.1.trans h.2.2.2, Nat.le_trans hC.2 h.2.1.1⟩, trivial, rfl, ⟨v', h.1⟩⟩
  case z4_1e =>
    intro vs V2 hC hS hV
    replace hS : (fun (w : World) => ∃ v, Pn w gp gp (dHead tk hs n) v) V2 := hS
    have d9 : (vs 0) = .pointer (some ⟨gd, 0, none⟩) := hV 0 (Nat.le_of_ble_eq_true rfl)
    have d10 : (vs 1) = .int .u32 tk := hV 1 (Nat.le_of_ble_eq_true rfl)
    have d11 : (vs 2) = .pointer (some ⟨gp, 0, none⟩) := hV 2 (Nat.le_of_ble_eq_true rfl)
    have d12 : (vs 3) = .pointer (some ⟨gd, 1, none⟩) := hV 3 (Nat.le_of_ble_eq_true rfl)
    have d13 : (vs 4) = .int .u32 hs := hV 4 (Nat.le_of_ble_eq_true rfl)
    have d14 : (vs 5) = .pointer (some ⟨gp, 0, none⟩) := hV 5 (Nat.le_of_ble_eq_true rfl)
    have d15 : (vs 6) = .pointer (some ⟨gd, 2, none⟩) := hV 6 (Nat.le_of_ble_eq_true rfl)
    have d16 : (vs 7) = .slice A n c := hV 7 (Nat.le_of_ble_eq_true rfl)
    have d17 : (vs 8) = .int .i64 n := hV 8 (Nat.le_of_ble_eq_true rfl)
    have d18 : (vs 9) = .int .u8 ((n % 256 : Nat) : Int) := hV 9 (Nat.le_of_ble_eq_true rfl)
    have d19 : (vs 10) = .pointer (some ⟨gp, 0, none⟩) := hV 10 (Nat.le_of_ble_eq_true rfl)
    clear hV
    simp only [putAll]
    rw [d9, d10, d11, d12, d13, d14, d15, d16, d17, d18, d19]
    clear d9 d10 d11 d12 d13 d14 d15 d16 d17 d18 d19
    clear vs
    simp only [Act.put, List.setIfInBounds_toArray, List.set_cons_zero, List.set_cons_succ]
    have HP2 := Aside0.mk hS
    have HB2 := Aside0.mk hC.1
    have GC2 := Aside0.mk hC.2
    clear hS hC HP0 HB0
    have c3 := blk_cell ((HB2.out.block gd GD.out).trans HG0.out) 3
    go_wp2_with fail
    clear c3
    go_loopw [23] (fun v23 wr => ∃ i : Nat, i ≤ m ∧ v23 = .int .i64 i ∧ Aside0 ((∃ v, Pn wr gp gp (dHead tk hs n ++ dRows (P.take i) (C.take i)) v) ∧ Below gp V0 wr)) (fun v23 _ => m - (intOf v23).toNat)
    case atStart => exact ⟨0, by omega, rfl, ⟨by simpa [dRows] using HP2.out, HB2.out⟩⟩
    case round =>
      clear HP2 HB2 GC2
      obtain ⟨i, hi, rfl, H⟩ := hrel
      by_cases hlt : i < m
      · have d1 : decide (i < m) = true := decide_eq_true hlt
        have hiP : i < P.length := by rw [HNP.out, HPC.out.1]; exact hlt
        have hiC : i < C.length := by rw [HPC.out.2.1]; exact hlt
        have HI := Aside0.mk (And.intro hiP hiC)
        obtain ⟨f1, f2⟩ := HF0.out wr H.out.2
        obtain ⟨adp, hA, p0⟩ := int_at f1 i hiP
        obtain ⟨adc, hA2, q0, q1⟩ := cell_at25 f2 hiC
        have HROW := Aside0.mk (dRows_succ hiP hiC)
        have HPI0 : Aside0 (∀ z, Below gp V0 z → ∃ ad, A = some ad ∧ z.cell? (ad.add i) = some (.int .u8 P[i])) := ⟨fun z hz => int_at (HF0.out z hz).1 i hiP⟩
        have HX := HB.out _ (List.getElem_mem hiP)
        have HY := HU.out _ (List.getElem_mem hiC)
        subst hA hA2
        have HPI : Aside0 (∀ z, Below gp V0 z → z.cell? (adp.add i) = some (.int .u8 P[i])) := ⟨fun z hz => by obtain ⟨ad, e, h⟩ := HPI0.out z hz; rw [Option.some.inj e]; exact h⟩
        clear HPI0
        have hi0 : (0 : Int) ≤ i := by omega
        have him : (i : Int) < m := by omega
        have hin : (i : Int) < n := by have := HPC.out; omega
        obtain ⟨pi, hpi⟩ : ∃ pi, P[i] = pi := ⟨_, rfl⟩
        obtain ⟨x, hx⟩ : ∃ x, C[i] = x := ⟨_, rfl⟩
        rw [hpi] at p0 HROW HPI
        rw [hx] at q0 q1 HROW HY
        obtain ⟨y0, hy0⟩ : ∃ y0 : Nat, x.f1 = (y0 : Int) := ⟨x.f1.toNat, by unfold U32 at HY; omega⟩
        obtain ⟨x0, hx0⟩ : ∃ x0 : Nat, x.f0 % 4294967296 = (x0 : Int) := ⟨(x.f0 % 4294967296).toNat, by omega⟩
        obtain ⟨z0, hz0⟩ : ∃ z0 : Int, x.f0 = z0 := ⟨_, rfl⟩
        have hcb : cellB true x = lowN x0 4 ++ lowN y0 4 := by unfold cellB; rw [if_pos rfl, hx0, hy0]; simp
        rw [hcb] at HROW
        rw [hz0] at q0 hx0
        rw [hy0] at q1 HY
        have HXW : Aside0 (IntKind.u32.wrap z0 = (x0 : Int) ∧ x0 < 4294967296 ∧ y0 < 4294967296) := ⟨by rw [IntKind.wrap_u32, hx0], by omega, by unfold U32 at HY; omega⟩
        have HLEN : Aside0 ((dHead tk hs n ++ dRows (P.take i) (C.take i)).length ≤ 10000) := ⟨by
          have h1 := dRows_len (P.take i) (C.take i)
          have h2 : (P.take i).length ≤ n := by rw [List.length_take, HNP.out]; omega
          simp only [List.length_append, dHead, lowN_length, List.length_cons, List.length_nil]
          omega⟩
        clear hpi hx hcb hx0 hz0 hy0 HX HY f1 f2
        obtain ⟨W0, hW0⟩ : ∃ W0, dHead tk hs n ++ dRows (P.take i) (C.take i) = W0 := ⟨_, rfl⟩
        rw [hW0] at H HLEN
        have HW0 := Aside0.mk hW0
        clear hW0
        go_wp2_with fail
        have HC0 : Aside0 (Below gp V0 (wr.alloc (.cells #[.int .i32 z0, .int .u32 y0] 30))) := ⟨H.out.2.trans (below_alloc (Below.refl _ _) _ |>.mono (by obtain ⟨v, hv⟩ := H.out.1; exact Nat.le_of_lt hv.lt))⟩
        have HS0 : Aside0 (∃ v, Pn (wr.alloc (.cells #[.int .i32 z0, .int .u32 y0] 30)) gp gp W0 v ∧ v.ownBlock ≠ some wr.heap.size) := ⟨by
          obtain ⟨v, hv⟩ := H.out.1
          exact ⟨v, hv.below (below_alloc (Below.refl _ _) _), fun e => by have := hv.own _ e; omega⟩⟩
        have GC0 := Aside0.mk (blk_new wr (.cells #[.int .i32 z0, .int .u32 y0] 30))
        have GNE : Aside0 (wr.heap.size ≠ gp ∧ gp ≤ wr.heap.size) := ⟨by obtain ⟨v, hv⟩ := H.out.1; have := hv.lt; exact ⟨by omega, by omega⟩⟩
        have GSZ : Aside0 (gp ≤ (wr.alloc (.cells #[.int .i32 z0, .int .u32 y0] 30)).heap.size) := ⟨by have := GNE.out.2; simp; omega⟩
        generalize wr.alloc (.cells #[.int .i32 z0, .int .u32 y0] 30) = z1 at *
        generalize wr.heap.size = gc at *
        clear H
        refine regionS (W := z1)
          [fun _ v => v = .pointer (some ⟨gd, 2, none⟩),
           fun _ v => v = .slice (some adp) n c,
           fun _ v => v = .int .i64 i,
           fun _ v => v = .pointer (some (adp.add i)),
           fun _ v => v = .int .u8 pi,
           fun _ v => v = .pointer (some ⟨gp, 0, none⟩),
           fun _ v => v = .pointer (some ⟨gc, 0, none⟩),
           fun _ v => v = .int .i32 z0,
           fun _ v => v = .int .u32 x0,
           fun _ v => v = .pointer (some ⟨gp, 0, none⟩),
           fun _ v => v = .pointer (some ⟨gc, 1, none⟩),
           fun _ v => v = .int .u32 y0,
           fun _ v => v = .pointer (some ⟨gp, 0, none⟩)]
          [5, 9, 12]
          (fun t => match t with | 0 => fun (rs : List Value) (w : World) => ∃ v, Pn w gp gp W0 v ∧ v.ownBlock ≠ some gc | 1 => fun (rs : List Value) (w : World) => ∃ v, Pn w gp gp (W0 ++ [pi]) v ∧ v.ownBlock ≠ some gc | 2 => fun (rs : List Value) (w : World) => ∃ v, Pn w gp gp (W0 ++ [pi] ++ lowN x0 4) v ∧ v.ownBlock ≠ some gc | 3 => fun (rs : List Value) (w : World) => ∃ v, Pn w gp gp (W0 ++ [pi] ++ lowN x0 4 ++ lowN y0 4) v ∧ v.ownBlock ≠ some gc | _ => fun _ _ => False)
          (fun _ _ _ => True) (fun w => Below gp V0 w ∧ gp ≤ w.heap.size ∧ w.heap[gc]? = some (.cells #[.int .i32 z0, .int .u32 y0] 30 (0, 0)))
          (fun j =>  none)
          [(0, some 28), (1, some 29), (2, some 30), (3, some 31), (4, some 32), (5, some 33), (6, some 34), (7, some 35), (8, some 36), (9, some 37), (10, some 38), (11, some 39), (12, some 40)]
          []
          (by kernel_rfl) (by kernel_rfl) (by kernel_rfl) (by kernel_rfl) (by kernel_rfl) ?z8_2c ?z8_2i ?z8_2b ?z8_2d ?z8_2g ⟨?z8_2t0, ?z8_2t1, ?z8_2t2, ?z8_2t3, ?z8_2t4, ?z8_2t5, ?z8_2t6, ?z8_2t7, ?z8_2t8, ?z8_2t9, ?z8_2t10, ?z8_2t11, ?z8_2t12, trivial⟩ ⟨?z8_2o0, ?z8_2o1, ?z8_2o2, ?z8_2o3, ?z8_2o4, ?z8_2o5, ?z8_2o6, ?z8_2o7, ?z8_2o8, ?z8_2o9, ?z8_2o10, ?z8_2o11, ?z8_2o12, trivial⟩ ?z8_2e
        case z8_2c => exact ⟨HC0.out.trans (below_drew (Below.refl _ _)), GSZ.out, GC0.out⟩
        case z8_2i => exact HS0.out
        case z8_2b => intro w w' hb h; exact ⟨h.1.trans (hb.mono h.2.1), Nat.le_trans h.2.1 hb.size, blk_below h.2.2 hb⟩
        case z8_2d =>
          intro t rs w w' hb h
          match t, h with
          | 0, h => (replace h : ∃ v, Pn w gp gp W0 v ∧ v.ownBlock ≠ some gc := h); show ∃ v, Pn w' gp gp W0 v ∧ v.ownBlock ≠ some gc; (obtain ⟨v, h, h2⟩ := h; exact ⟨v, h.below hb, h2⟩)
          | 1, h => (replace h : ∃ v, Pn w gp gp (W0 ++ [pi]) v ∧ v.ownBlock ≠ some gc := h); show ∃ v, Pn w' gp gp (W0 ++ [pi]) v ∧ v.ownBlock ≠ some gc; (obtain ⟨v, h, h2⟩ := h; exact ⟨v, h.below hb, h2⟩)
          | 2, h => (replace h : ∃ v, Pn w gp gp (W0 ++ [pi] ++ lowN x0 4) v ∧ v.ownBlock ≠ some gc := h); show ∃ v, Pn w' gp gp (W0 ++ [pi] ++ lowN x0 4) v ∧ v.ownBlock ≠ some gc; (obtain ⟨v, h, h2⟩ := h; exact ⟨v, h.below hb, h2⟩)
          | 3, h => (replace h : ∃ v, Pn w gp gp (W0 ++ [pi] ++ lowN x0 4 ++ lowN y0 4) v ∧ v.ownBlock ≠ some gc := h); show ∃ v, Pn w' gp gp (W0 ++ [pi] ++ lowN x0 4 ++ lowN y0 4) v ∧ v.ownBlock ≠ some gc; (obtain ⟨v, h, h2⟩ := h; exact ⟨v, h.below hb, h2⟩)
          | _ + 4, h => exact h.elim
        case z8_2g =>
          intro j hj; cases hj
        case z8_2t0 => exact StabS.const _ _ _ _
        case z8_2t1 => exact StabS.const _ _ _ _
        case z8_2t2 => exact StabS.const _ _ _ _
        case z8_2t3 => exact StabS.const _ _ _ _
        case z8_2t4 => exact StabS.const _ _ _ _
        case z8_2t5 => exact StabS.const _ _ _ _
        case z8_2t6 => exact StabS.const _ _ _ _
        case z8_2t7 => exact StabS.const _ _ _ _
        case z8_2t8 => exact StabS.const _ _ _ _
        case z8_2t9 => exact StabS.const _ _ _ _
        case z8_2t10 => exact StabS.const _ _ _ _
        case z8_2t11 => exact StabS.const _ _ _ _
        case z8_2t12 => exact StabS.const _ _ _ _
        case z8_2o0 =>
          intro vs w t hC ht1 ht2 hS hV
          rw [if_pos (by kernel_rfl)]
          generalize hρ : rho _ _ _ vs = ρ
          have e1 : ρ (.tmp 1) = .pointer (some ⟨gd, 0, none⟩) := by rw [← hρ]; kernel_rfl
          clear hρ hV
          refine runs_val (v := .pointer (some ⟨gd, 2, none⟩)) (w' := w) ?_ ⟨Below.refl _ _, rfl⟩
          clear ht1 ht2 hS hC
          go_simp <;> (first | exact IntWalk.u64_in _ (by omega) | exact IntWalk.u32_in _ (by omega) | exact IntWalk.u16_in _ (by omega) | exact IntWalk.u8_in _ (by omega) | exact IntWalk.i64_in _ (by omega) | skip)
        case z8_2o1 =>
          intro vs w t hC ht1 ht2 hS hV
          rw [if_pos (by kernel_rfl)]
          generalize hρ : rho _ _ _ vs = ρ
          have d28 : (vs 0) = .pointer (some ⟨gd, 2, none⟩) := hV 0 (by kernel_rfl)
          have e28 : ρ (.tmp 28) = vs 0 := by rw [← hρ]; kernel_rfl
          rw [d28] at e28; clear d28
          clear hρ hV
          have c0 := blk_cell ((hC.1.block gd GD.out).trans HG0.out) 2
          refine runs_val (v := .slice (some adp) n c) (w' := w) ?_ ⟨Below.refl _ _, rfl⟩
          clear ht1 ht2 hS hC
          go_simp
        case z8_2o2 =>
          intro vs w t hC ht1 ht2 hS hV
          rw [if_pos (by kernel_rfl)]
          generalize hρ : rho _ _ _ vs = ρ
          have e4 : ρ (.tmp 4) = .int .i64 i := by rw [← hρ]; kernel_rfl
          clear hρ hV
          refine runs_val (v := .int .i64 i) (w' := w) ?_ ⟨Below.refl _ _, rfl⟩
          clear ht1 ht2 hS hC
          go_simp <;> (first | exact IntWalk.u64_in _ (by omega) | exact IntWalk.u32_in _ (by omega) | exact IntWalk.u16_in _ (by omega) | exact IntWalk.u8_in _ (by omega) | exact IntWalk.i64_in _ (by omega) | skip)
        case z8_2o3 =>
          intro vs w t hC ht1 ht2 hS hV
          rw [if_pos (by kernel_rfl)]
          generalize hρ : rho _ _ _ vs = ρ
          have d29 : (vs 1) = .slice (some adp) n c := hV 1 (by kernel_rfl)
          have e29 : ρ (.tmp 29) = vs 1 := by rw [← hρ]; kernel_rfl
          rw [d29] at e29; clear d29
          have d30 : (vs 2) = .int .i64 i := hV 2 (by kernel_rfl)
          have e30 : ρ (.tmp 30) = vs 2 := by rw [← hρ]; kernel_rfl
          rw [d30] at e30; clear d30
          clear hρ hV
          refine runs_val (v := .pointer (some (adp.add i))) (w' := w) ?_ ⟨Below.refl _ _, rfl⟩
          clear ht1 ht2 hS hC
          go_simp <;> (first | exact IntWalk.u64_in _ (by omega) | exact IntWalk.u32_in _ (by omega) | exact IntWalk.u16_in _ (by omega) | exact IntWalk.u8_in _ (by omega) | exact IntWalk.i64_in _ (by omega) | skip)
        case z8_2o4 =>
          intro vs w t hC ht1 ht2 hS hV
          rw [if_pos (by kernel_rfl)]
          generalize hρ : rho _ _ _ vs = ρ
          have d31 : (vs 3) = .pointer (some (adp.add i)) := hV 3 (by kernel_rfl)
          have e31 : ρ (.tmp 31) = vs 3 := by rw [← hρ]; kernel_rfl
          rw [d31] at e31; clear d31
          clear hρ hV
          have c0 := HPI.out w hC.1
          refine runs_val (v := .int .u8 pi) (w' := w) ?_ ⟨Below.refl _ _, rfl⟩
          clear ht1 ht2 hS hC
          go_simp
        case z8_2o5 =>
          intro vs w hC hS hV
          replace hS : ∃ v, Pn w gp gp W0 v ∧ v.ownBlock ≠ some gc := hS
          rw [if_pos (by kernel_rfl)]
          generalize hρ : rho _ _ _ vs = ρ
          have e3 : ρ (.tmp 3) = .pointer (some ⟨gp, 0, none⟩) := by rw [← hρ]; kernel_rfl
          have d32 : (vs 4) = .int .u8 pi := hV 4 (by kernel_rfl)
          have e32 : ρ (.tmp 32) = vs 4 := by rw [← hρ]; kernel_rfl
          rw [d32] at e32; clear d32
          have ef39 : ρ (.func 39) = .func (.func 39) #[] #[] := by rw [← hρ]; rfl
          clear hρ hV
          obtain ⟨v, hp, hv⟩ := hS
          refine runs_call (f := 39) (args := #[.pointer (some ⟨gp, 0, none⟩), .int .u8 pi]) (w' := w) ?_ ?_
          · go_simp
          · refine (pbyte_any gp gp W0 v _ w hp (Nat.le_refl _) (by have := HLEN.out; omega)).mono ?_
            rintro e w5 ⟨v', rfl, h⟩
            obtain ⟨k1, k2⟩ := h.blk hC.2.2 GNE.out.1 hv
            exact ⟨_, rfl, ⟨hC.1.trans h.2.2.2, Nat.le_trans hC.2.1 h.2.1.1, k1⟩, trivial, rfl, ⟨v', h.1, k2⟩⟩
        case z8_2o6 =>
          intro vs w t hC ht1 ht2 hS hV
          rw [if_pos (by kernel_rfl)]
          generalize hρ : rho _ _ _ vs = ρ
          have e5 : ρ (.tmp 5) = .pointer (some ⟨gc, 0, none⟩) := by rw [← hρ]; kernel_rfl
          clear hρ hV
          refine runs_val (v := .pointer (some ⟨gc, 0, none⟩)) (w' := w) ?_ ⟨Below.refl _ _, rfl⟩
          clear ht1 ht2 hS hC
          go_simp <;> (first | exact IntWalk.u64_in _ (by omega) | exact IntWalk.u32_in _ (by omega) | exact IntWalk.u16_in _ (by omega) | exact IntWalk.u8_in _ (by omega) | exact IntWalk.i64_in _ (by omega) | skip)
        case z8_2o7 =>
          intro vs w t hC ht1 ht2 hS hV
          rw [if_pos (by kernel_rfl)]
          generalize hρ : rho _ _ _ vs = ρ
          have d34 : (vs 6) = .pointer (some ⟨gc, 0, none⟩) := hV 6 (by kernel_rfl)
          have e34 : ρ (.tmp 34) = vs 6 := by rw [← hρ]; kernel_rfl
          rw [d34] at e34; clear d34
          clear hρ hV
          have c0 := blk_cell hC.2.2 0
          refine runs_val (v := .int .i32 z0) (w' := w) ?_ ⟨Below.refl _ _, rfl⟩
          clear ht1 ht2 hS hC
          go_simp
        case z8_2o8 =>
          intro vs w t hC ht1 ht2 hS hV
          rw [if_pos (by kernel_rfl)]
          generalize hρ : rho _ _ _ vs = ρ
          have d35 : (vs 7) = .int .i32 z0 := hV 7 (by kernel_rfl)
          have e35 : ρ (.tmp 35) = vs 7 := by rw [← hρ]; kernel_rfl
          rw [d35] at e35; clear d35
          clear hρ hV
          have ix := HXW.out.1
          refine runs_val (v := .int .u32 x0) (w' := w) ?_ ⟨Below.refl _ _, rfl⟩
          clear ht1 ht2 hS hC
          rw [← ix]
          clear ix
          go_simp
        case z8_2o9 =>
          intro vs w hC hS hV
          replace hS : ∃ v, Pn w gp gp (W0 ++ [pi]) v ∧ v.ownBlock ≠ some gc := hS
          rw [if_pos (by kernel_rfl)]
          generalize hρ : rho _ _ _ vs = ρ
          have d33 : (vs 5) = .pointer (some ⟨gp, 0, none⟩) := hV 5 (by kernel_rfl)
          have e33 : ρ (.tmp 33) = vs 5 := by rw [← hρ]; kernel_rfl
          rw [d33] at e33; clear d33
          have d36 : (vs 8) = .int .u32 x0 := hV 8 (by kernel_rfl)
          have e36 : ρ (.tmp 36) = vs 8 := by rw [← hρ]; kernel_rfl
          rw [d36] at e36; clear d36
          have ef38 : ρ (.func 38) = .func (.func 38) #[] #[] := by rw [← hρ]; rfl
          clear hρ hV
          obtain ⟨v, hp, hv⟩ := hS
          refine runs_call (f := 38) (args := #[.pointer (some ⟨gp, 0, none⟩), .int .u32 x0]) (w' := w) ?_ ?_
          · go_simp
          · refine (pword_any gp gp (W0 ++ [pi]) v x0 HXW.out.2.1 w hp (Nat.le_refl _) (by have := HLEN.out; simp only [List.length_append, List.length_cons, List.length_nil]; omega)).mono ?_
            rintro e w5 ⟨v', rfl, h⟩
            obtain ⟨k1, k2⟩ := h.blk hC.2.2 GNE.out.1 hv
            exact ⟨_, rfl, ⟨hC.1.trans h.2.2.2, Nat.le_trans hC.2.1 h.2.1.1, k1⟩, trivial, rfl, ⟨v', h.1, k2⟩⟩
        case z8_2o10 =>
          intro vs w t hC ht1 ht2 hS hV
          rw [if_pos (by kernel_rfl)]
          generalize hρ : rho _ _ _ vs = ρ
          have e5 : ρ (.tmp 5) = .pointer (some ⟨gc, 0, none⟩) := by rw [← hρ]; kernel_rfl
          clear hρ hV
          refine runs_val (v := .pointer (some ⟨gc, 1, none⟩)) (w' := w) ?_ ⟨Below.refl _ _, rfl⟩
          clear ht1 ht2 hS hC
          go_simp <;> (first | exact IntWalk.u64_in _ (by omega) | exact IntWalk.u32_in _ (by omega) | exact IntWalk.u16_in _ (by omega) | exact IntWalk.u8_in _ (by omega) | exact IntWalk.i64_in _ (by omega) | skip)
        case z8_2o11 =>
          intro vs w t hC ht1 ht2 hS hV
          rw [if_pos (by kernel_rfl)]
          generalize hρ : rho _ _ _ vs = ρ
          have d38 : (vs 10) = .pointer (some ⟨gc, 1, none⟩) := hV 10 (by kernel_rfl)
          have e38 : ρ (.tmp 38) = vs 10 := by rw [← hρ]; kernel_rfl
          rw [d38] at e38; clear d38
          clear hρ hV
          have c0 := blk_cell hC.2.2 1
          refine runs_val (v := .int .u32 y0) (w' := w) ?_ ⟨Below.refl _ _, rfl⟩
          clear ht1 ht2 hS hC
          go_simp
        case z8_2o12 =>
          intro vs w hC hS hV
          replace hS : ∃ v, Pn w gp gp (W0 ++ [pi] ++ lowN x0 4) v ∧ v.ownBlock ≠ some gc := hS
          rw [if_pos (by kernel_rfl)]
          generalize hρ : rho _ _ _ vs = ρ
          have d37 : (vs 9) = .pointer (some ⟨gp, 0, none⟩) := hV 9 (by kernel_rfl)
          have e37 : ρ (.tmp 37) = vs 9 := by rw [← hρ]; kernel_rfl
          rw [d37] at e37; clear d37
          have d39 : (vs 11) = .int .u32 y0 := hV 11 (by kernel_rfl)
          have e39 : ρ (.tmp 39) = vs 11 := by rw [← hρ]; kernel_rfl
          rw [d39] at e39; clear d39
          have ef38 : ρ (.func 38) = .func (.func 38) #[] #[] := by rw [← hρ]; rfl
          clear hρ hV
          obtain ⟨v, hp, hv⟩ := hS
          refine runs_call (f := 38) (args := #[.pointer (some ⟨gp, 0, none⟩), .int .u32 y0]) (w' := w) ?_ ?_
          · go_simp
          · refine (pword_any gp gp (W0 ++ [pi] ++ lowN x0 4) v y0 HXW.out.2.2 w hp (Nat.le_refl _) (by have := HLEN.out; simp only [List.length_append, List.length_cons, List.length_nil, lowN_length]; omega)).mono ?_
            rintro e w5 ⟨v', rfl, h⟩
            obtain ⟨k1, k2⟩ := h.blk hC.2.2 GNE.out.1 hv
            exact ⟨_, rfl, ⟨hC.1.trans h.2.2.2, Nat.le_trans hC.2.1 h.2.1.1, k1⟩, trivial, rfl, ⟨v', h.1, k2⟩⟩
        case z8_2e =>
          intro vs z2 hC hS hV
          replace hS : (fun (w : World) => ∃ v, Pn w gp gp (W0 ++ [pi] ++ lowN x0 4 ++ lowN y0 4) v ∧ v.ownBlock ≠ some gc) z2 := hS
          have d28 : (vs 0) = .pointer (some ⟨gd, 2, none⟩) := hV 0 (Nat.le_of_ble_eq_true rfl)
          have d29 : (vs 1) = .slice (some adp) n c := hV 1 (Nat.le_of_ble_eq_true rfl)
          have d30 : (vs 2) = .int .i64 i := hV 2 (Nat.le_of_ble_eq_true rfl)
          have d31 : (vs 3) = .pointer (some (adp.add i)) := hV 3 (Nat.le_of_ble_eq_true rfl)
          have d32 : (vs 4) = .int .u8 pi := hV 4 (Nat.le_of_ble_eq_true rfl)
          have d33 : (vs 5) = .pointer (some ⟨gp, 0, none⟩) := hV 5 (Nat.le_of_ble_eq_true rfl)
          have d34 : (vs 6) = .pointer (some ⟨gc, 0, none⟩) := hV 6 (Nat.le_of_ble_eq_true rfl)
          have d35 : (vs 7) = .int .i32 z0 := hV 7 (Nat.le_of_ble_eq_true rfl)
          have d36 : (vs 8) = .int .u32 x0 := hV 8 (Nat.le_of_ble_eq_true rfl)
          have d37 : (vs 9) = .pointer (some ⟨gp, 0, none⟩) := hV 9 (Nat.le_of_ble_eq_true rfl)
          have d38 : (vs 10) = .pointer (some ⟨gc, 1, none⟩) := hV 10 (Nat.le_of_ble_eq_true rfl)
          have d39 : (vs 11) = .int .u32 y0 := hV 11 (Nat.le_of_ble_eq_true rfl)
          have d40 : (vs 12) = .pointer (some ⟨gp, 0, none⟩) := hV 12 (Nat.le_of_ble_eq_true rfl)
          clear hV
          simp only [putAll]
          rw [d28, d29, d30, d31, d32, d33, d34, d35, d36, d37, d38, d39, d40]
          clear d28 d29 d30 d31 d32 d33 d34 d35 d36 d37 d38 d39 d40
          clear vs
          simp only [Act.put, List.setIfInBounds_toArray, List.set_cons_zero, List.set_cons_succ]
          have HE : Aside0 ((∃ v, Pn z2 gp gp (dHead tk hs n ++ dRows (P.take (i + 1)) (C.take (i + 1))) v) ∧ Below gp V0 z2) := ⟨by
            obtain ⟨v, h1, _⟩ := hS
            refine ⟨⟨v, ?_⟩, hC.1⟩
            rw [HROW.out, ← List.append_assoc, HW0.out]
            have e : W0 ++ (pi :: (lowN x0 4 ++ lowN y0 4)) = W0 ++ [pi] ++ lowN x0 4 ++ lowN y0 4 := by simp
            rw [e]; exact h1⟩
          clear hS hC HC0 HS0 GC0 GNE GSZ
          go_wp2_with fail
          go_roundw
          case rel => exact ⟨i + 1, by omega, by go_num, HE⟩
          case measure => simp [intOf]; omega
      · obtain rfl : i = m := by omega
        have d1 : decide (i < i) = false := decide_eq_false (by omega)
        obtain ⟨v, hv⟩ := H.out.1
        have HE : Aside0 (dHead tk hs n ++ dRows (P.take i) (C.take i) = dBytes tk hs P C) := ⟨by unfold dBytes; rw [List.take_of_length_le (by rw [HNP.out, HPC.out.1]; omega), List.take_of_length_le (by rw [HPC.out.2.1]; omega), HNP.out]⟩
        rw [HE.out] at hv
        have HLEN : Aside0 ((dBytes tk hs P C).length ≤ 1000000) := ⟨by
          have h1 := dRows_len P C
          have := HPC.out
          have := HNP.out
          simp only [dBytes, List.length_append, dHead, lowN_length, List.length_cons, List.length_nil]
          omega⟩
        have KEY := Aside0.mk (pbytes_any gp gp (dBytes tk hs P C) v wr hv HLEN.out)
        have HBW := Aside0.mk H.out.2
        have GSW : Aside0 (gp ≤ wr.heap.size) := ⟨Nat.le_of_lt hv.lt⟩
        clear hv H HLEN HE
        generalize hdw : dBytes tk hs P C = dw at *
        have HDW := Aside0.mk hdw
        clear hdw
        go_wp2_with fail
        refine KEY.out.mono ?_
        rintro e wz ⟨vo, rfl, k1, k2⟩
        have K1 := Aside0.mk k1
        have K2 := Aside0.mk k2
        clear k1 k2 KEY
        go_wp2_with fail
        go_ret
        rw [HGD.out]
        try rw [HDW.out]
        exact ⟨vo, rfl, Kd.R_lower K1.out (Nat.le_trans (Nat.le_of_lt GD.out) GSW.out), H1.out.bel.trans ((HBW.out.trans (K2.out.mono GSW.out)).mono (Nat.le_of_lt GD.out))⟩
end Go.Proofs.Ytkhlalpkkmjfnaa

namespace Go.Proofs.Ytkhlalpkkmjfnaa
open Go.RowKit Go.Proofs.YtkhlalpkkmjfnaaW.PrintWords Go.Proofs.YtkhlalpkkmjfnaaW.PrintLast Go.Proofs.YtkhlalpkkmjfnaaW.PrintMore
set_option linter.unusedVariables false
set_option linter.unusedSimpArgs false

/-- What delta.Of tells, as a value and rows. -/
def OfR (w0 : Nat) (w' : World) (tk hs : Int) (P : List Int) (C : List S30) (v : Value) : Prop :=
  ∃ A c A2 c2, v = .agg #[.int .u32 tk, .int .u32 hs, .slice A P.length c, .slice A2 C.length c2] ∧ P.length ≤ c ∧ C.length ≤ c2 ∧
    (Kd.int .u8).R 5 w' w0 (fun _ => True) (.slice A P.length c) P ∧ k30.R 30 w' w0 (fun _ => True) (.slice A2 C.length c2) C
theorem OfR.cells {w0 : Nat} {w' : World} {tk hs : Int} {P : List Int} {C : List S30} {v : Value} (h : OfR w0 w' tk hs P C v) :
    ∃ A c A2 c2, v = .agg #[.int .u32 tk, .int .u32 hs, .slice A P.length c, .slice A2 C.length c2] ∧ P.length ≤ c ∧ C.length ≤ c2 ∧ (Kd.int .u8).C w' A P.length P ∧ k30.C w' A2 C.length C := by
  obtain ⟨A, c, A2, c2, rfl, h1, h2, h3, h4⟩ := h
  exact ⟨A, c, A2, c2, rfl, h1, h2, (Ru_C h3).2.2, (Ru_C h4).2.2⟩
theorem of_full (f : Nat → S30) (n t : Nat) (o tk : Int) (w : World) (hn : n ≤ 48) (ht : t < 18446744073709551616) (hf : ∀ k, k < n → U32 (f k).f1) :
    Calls Try.prog 13 #[.agg (boardC f n), .int .u64 t, .int .i64 o, .int .u32 tk] w fun e w' => ∃ v, e = .returned v ∧ OfR w.heap.size w' tk (sumB true (listF (viewF f n o) n)) (plL t n) (clL (viewF f n o) t n) v ∧ Below w.heap.size w w' := by
  refine (of_any f n t o tk w hn ht hf).mono ?_
  rintro e w' ⟨vP, vC, rfl, h1, h2, h3⟩
  obtain ⟨A, c, rfl, l1, _⟩ := Kd.R_reads h1
  obtain ⟨A2, c2, rfl, l2, _⟩ := Kd.R_reads h2
  exact ⟨_, rfl, ⟨A, c, A2, c2, rfl, l1, l2, h1, h2⟩, h3⟩
def allT : Nat := 18446744073709551615
set_option maxRecDepth 100000 in
set_option maxHeartbeats 4000000 in
theorem full_any (f : Nat → S30) (n : Nat) (o tk : Int) (w : World) (hn : n ≤ 48) (hf : ∀ k, k < n → U32 (f k).f1) :
    Calls Try.prog 15 #[.agg (boardC f n), .int .i64 o, .int .u32 tk] w fun e w' => ∃ v, e = .returned v ∧ OfR w.heap.size w' tk (sumB true (listF (viewF f n o) n)) (plL allT n) (clL (viewF f n o) allT n) v ∧ Below w.heap.size w w' := by
  have HI := fun f m => Aside0.mk (board_info f m)
  have H0 := Aside0.mk (((Hp.start w).alloc (.cells (boardC f n) 34)).allocAt (.cells #[.int .u32 0, .int .u32 0, .slice none 0 0, .slice none 0 0] 41) (w.heap.size + 1) (by simp))
  have KEY := fun X : World => Aside0.mk (of_full f n allT o tk X hn (by decide) hf)
  have hA : ((allT : Nat) : Int) = 18446744073709551615 := by decide
  rw [hA] at KEY
  clear hA hn hf
  generalize plL allT n = P at *
  generalize clL (viewF f n o) allT n = C at *
  generalize sumB true (listF (viewF f n o) n) = hs at *
  go_enter Try.func15, Try.ntmps15
  go_wp2_with (first | (refine wpList_load_row_g 34 (.tmp 3) rfl (w.heap.size) rfl rfl 34 _ (0, 0) _ (H0.out.get (i := 1) rfl) Try.underlying34 rfl (HI _ _).out ?_))
  refine (KEY _).out.mono ?_
  rintro e w1 ⟨v, rfl, hv, hb1⟩
  have H1 := Aside0.mk (H0.out.call hb1)
  have HV := Aside0.mk hv
  obtain ⟨A, c, A2, c2, rfl, _, _, h3, h4⟩ := hv
  have H2 := Aside0.mk (H1.out.setRow (i := 0) rfl #[.int .u32 tk, .int .u32 hs, .slice A P.length c, .slice A2 C.length c2])
  have HP := Aside0.mk h3
  have HC := Aside0.mk h4
  generalize hp : P.length = p at *
  generalize hc : C.length = q at *
  have HPQ := Aside0.mk (And.intro hp hc)
  have HL : Aside0 ((.slice A p c : Value).ownBlock ≠ some (w.heap.size + 1) ∧ (.slice A2 q c2 : Value).ownBlock ≠ some (w.heap.size + 1)) := ⟨fun e => Kd.R_ne h3 (H1.out.get (i := 0) rfl) (by decide) e.symm, fun e => Kd.R_ne h4 (H1.out.get (i := 0) rfl) (by decide) e.symm⟩
  clear hb1 KEY H0 h3 h4 hp hc
  go_wp2_with (first | (refine wpList_store_row rfl 41 (.tmp 6) (.tmp 10) rfl (w.heap.size + 1) #[.int .u32 tk, .int .u32 hs, .slice A p c, .slice A2 q c2] rfl rfl 41 _ (H1.out.get (i := 0) rfl) (delta_info _ _ _ _) rfl (by simp [Value.oneCell']) ?_))
  refine bodyPost_ret (results_cell_row rfl _ _ (w.heap.size + 1) _ #[.int .u32 tk, .int .u32 hs, .slice A p c, .slice A2 q c2] (0, 0) _ rfl (H2.out.get (i := 0) rfl) Try.underlying41 rfl (delta_info _ _ _ _)) rfl ?_
  obtain ⟨e1, e2⟩ := HPQ.out
  subst e1 e2
  obtain ⟨A', c', A2', c2', ee, l1, l2, _, _⟩ := HV.out
  simp only [Value.agg.injEq, Array.mk.injEq, List.cons.injEq, Value.slice.injEq, true_and, and_true] at ee
  obtain ⟨⟨rfl, rfl⟩, rfl, rfl⟩ := ee
  have rP := Kd.R_lower HP.out (show w.heap.size ≤ _ by simp; omega)
  have rC := Kd.R_lower HC.out (show w.heap.size ≤ _ by simp; omega)
  exact ⟨_, rfl, ⟨A, c, A2, c2, rfl, l1, l2, Kd.R_grown2 rP rfl (grown_setRow _ _ _) (fun k hk e => HL.out.1 (by rw [← e, hk])), Kd.R_grown2 rC rfl (grown_setRow _ _ _) (fun k hk e => HL.out.2 (by rw [← e, hk]))⟩, H2.out.bel⟩
end Go.Proofs.Ytkhlalpkkmjfnaa

namespace Go.Proofs.Ytkhlalpkkmjfnaa
open Go.RowKit Go.Proofs.YtkhlalpkkmjfnaaW.PrintWords Go.Proofs.YtkhlalpkkmjfnaaW.PrintLast Go.Proofs.YtkhlalpkkmjfnaaW.PrintMore
set_option linter.unusedVariables false
set_option linter.unusedSimpArgs false

theorem few7_f (L : List S30) : hoodwinklaw07_few.f L = some (L.take 48) := by
  unfold hoodwinklaw07_few.f
  have h1 : (0 : Int) ≤ mn (L.length : Int) 48 := by unfold mn; split <;> omega
  have h2 : mn (L.length : Int) 48 ≤ (L.length : Int) := by unfold mn; split <;> omega
  have h3 : (mn (L.length : Int) 48).toNat = min L.length 48 := by unfold mn; split <;> omega
  have h4 : L.take (min L.length 48) = L.take 48 := by rw [List.take_eq_take_iff]; omega
  show ((if 0 ≤ mn (L.length : Int) 48 then _ else none : Option (List S30))) = _
  rw [if_pos h1, if_pos h2, h3, h4]
  show ((if ([] : List S30).length + (L.take 48).length < 17592186044416 then some ([] ++ L.take 48) else none : Option (List S30))) = _
  rw [if_pos (by rw [List.length_take]; simp; omega), List.nil_append]
theorem few7_any (A : Option Addr) (n c : Nat) (L : List S30) (w : World) (hr : k30.C w A n L) (hc : n ≤ c) :
    Calls Try.prog 9 #[.slice A n c] w fun e w' => ∃ v, e = .returned v ∧ k30.R 30 w' w.heap.size (fun _ => True) v (L.take 48) ∧ Below w.heap.size w w' := by
  obtain rfl := hr.1
  exact hoodwinklaw07_few.calls A c L _ w hr hc (few7_f L)
/-- A row of cells that the call has made. -/
theorem C_of_cells {w : World} {g : Nat} {L : List S30} (h : w.heap[g]? = some (.cells (flatC L).toArray 30 (0, 0))) (hm : L.length ≤ 1000000) : k30.C w (some ⟨g, 0, none⟩) L.length L := Rc.reads h hm
theorem add0' (ad : Addr) : ad.add 0 = ad := by cases ad; simp [Addr.add]
theorem has_zero : hasB 0 0 = false := by kernel_rfl
theorem ex_places : plL 2 2 = [1] := by decide
theorem ex_cells (f : Nat → S30) : clL f 2 2 = [f 1] := by
  have : touchL 2 2 = [1] := by decide
  unfold clL; rw [this]; rfl

set_option maxRecDepth 100000 in
set_option maxHeartbeats 4000000 in
theorem awake7_any (w : World) : Calls Try.prog 8 #[] w fun e w' => e = .returned (.bool true) ∧ Below w.heap.size w w' := by
  have hz := zero_board
  have HI := fun f m => Aside0.mk (board_info f m)
  have HO := fun f m => Aside0.mk (boardC_one f m)
  have KN := Aside0.mk (new_any (some ⟨w.heap.size, 0, none⟩) 2 2 [⟨7, 1⟩, ⟨8, 0⟩] _ (C_of_cells (L := [⟨7, 1⟩, ⟨8, 0⟩]) (blk_new w (.cells #[.int .i32 7, .int .u32 1, .int .i32 8, .int .u32 0] 30)) (by decide)) (by decide) (by decide))
  have H0 := Aside0.mk ((Hp.start w).call (below_alloc (Below.refl w.heap.size w) (.cells #[.int .i32 7, .int .u32 1, .int .i32 8, .int .u32 0] 30)))
  go_enter Try.func8, Try.ntmps8
  go_wp2_with fail
  refine KN.out.mono ?_
  rintro e w2 ⟨rfl, hb2⟩
  have H1 := Aside0.mk (H0.out.call hb2)
  clear hb2 KN H0
  obtain ⟨f, hf⟩ : ∃ f, fL [⟨7, 1⟩, ⟨8, 0⟩] = f := ⟨_, rfl⟩
  have HF : Aside0 (f 0 = ⟨7, 1⟩ ∧ f 1 = ⟨8, 0⟩) := ⟨by rw [← hf]; exact ⟨rfl, rfl⟩⟩
  rw [hf]
  clear hf
  have HZ := Aside0.mk (blk_new w2 (.cells (boardC (fun _ => z30) 0) 34))
  have H2 := Aside0.mk ((H1.out.alloc (.cells (boardC (fun _ => z30) 0) 34)).setRow (i := 0) rfl (boardC f 2))
  clear H1
  go_wp2_with (first | (refine wpList_load_row_g 34 (.tmp 1) rfl (w2.heap.size) rfl rfl 34 _ (0, 0) _ (H2.out.get (i := 0) rfl) Try.underlying34 rfl (HI _ _).out ?_) | (refine wpList_store_row rfl 34 (.tmp 1) (.tmp 9) rfl (w2.heap.size) (boardC f 2) rfl rfl 34 _ HZ.out (HI _ _).out (by rw [boardC_size, boardC_size]) (HO _ _).out ?_))
  have HU : Aside0 (∀ k, k < 2 → U32 (f k).f1) := ⟨fun k hk => by
    match k, hk with
    | 0, _ => rw [HF.out.1]; unfold U32; decide
    | 1, _ => rw [HF.out.2]; unfold U32; decide⟩
  have KO := fun X : World => Aside0.mk (of_full f 2 2 0 5 X (by decide) (by decide) HU.out)
  rw [ex_places, ex_cells] at KO
  have hv : viewF f 2 0 1 = ⟨0, 0⟩ := by unfold viewF; rw [HF.out.2]; rw [if_pos ⟨by decide, has_zero⟩]
  rw [hv] at KO
  clear hv
  have HHS : Aside0 (sumB true (listF (viewF f 2 0) 2) < 4294967296) := ⟨by unfold sumB sumN; omega⟩
  generalize sumB true (listF (viewF f 2 0) 2) = hs at *
  generalize (w2.alloc (.cells (boardC (fun _ => z30) 0) 34)).setRow w2.heap.size (boardC f 2) = w3 at *
  refine (KO _).out.mono ?_
  rintro e w4 ⟨v, rfl, hv, hb4⟩
  have H3 := Aside0.mk (H2.out.call hb4)
  obtain ⟨A, c, A2, c2, rfl, l1, l2, h3, h4⟩ := hv.cells
  have hb5 := below_alloc (Below.refl w4.heap.size w4) (.cells #[.int .u32 5, .int .u32 hs, .slice A 1 c, .slice A2 1 c2] 41)
  have H4 := Aside0.mk (H3.out.alloc (.cells #[.int .u32 5, .int .u32 hs, .slice A 1 c, .slice A2 1 c2] 41))
  have KB := Aside0.mk (dbytes_yes 5 hs A A2 1 c 1 c2 [1] [⟨0, 0⟩] _ (Kd.C_below h3 hb5) l1 (Kd.C_below h4 hb5) l2 (by decide) (by decide) HHS.out (by intro x hx; obtain rfl := List.mem_singleton.1 hx; unfold U32; decide))
  have e5 : ((5 : Nat) : Int) = 5 := rfl
  rw [e5] at KB
  clear e5
  have HD := Aside0.mk (And.intro (Kd.C_below h3 hb5) (Kd.C_below h4 hb5))
  clear hb4 hb5 hv l1 l2 h3 h4 KO HZ H2 HU H3
  go_wp2_with (first | (refine wpList_load_row_g 41 (.tmp 3) rfl (w4.heap.size) rfl rfl 41 _ (0, 0) _ (H4.out.get (i := 0) rfl) Try.underlying41 rfl (delta_info _ _ _ _) ?_))
  refine KB.out.mono ?_
  rintro e w5 ⟨vb, rfl, hvb, hb6⟩
  obtain ⟨Q, d, rfl, l3, _⟩ := Kd.R_reads hvb
  have hlen : (dBytes 5 hs [1] [⟨0, 0⟩]).length = 18 := by simp [dBytes, dHead, dRows, dCell, cellB, lowN_length]
  rw [hlen]
  have H5 := Aside0.mk (H4.out.call hb6)
  obtain ⟨adp, rfl, p0⟩ := int_at (Kd.C_below HD.out.1 hb6) 0 (by decide)
  obtain ⟨adc, rfl, q0, q1⟩ := cell_at25 (Kd.C_below HD.out.2 hb6) (j := 0) (by decide)
  rw [List.getElem_cons_zero, add0'] at p0
  rw [List.getElem_cons_zero, Nat.zero_mul, add0'] at q0
  have c0 := blk_cell (H5.out.get (i := 0) rfl) 0
  have c2 := blk_cell (H5.out.get (i := 0) rfl) 2
  have c3 := blk_cell (H5.out.get (i := 0) rfl) 3
  clear hvb l3 hlen hb6 KB HD H4 q1
  go_wp2_with fail
  go_ret
  exact ⟨rfl, H5.out.bel⟩
end Go.Proofs.Ytkhlalpkkmjfnaa

namespace Go.Proofs.Ytkhlalpkkmjfnaa
open Go.RowKit Go.Proofs.YtkhlalpkkmjfnaaW.PrintWords Go.Proofs.YtkhlalpkkmjfnaaW.PrintLast Go.Proofs.YtkhlalpkkmjfnaaW.PrintMore
set_option linter.unusedVariables false
set_option linter.unusedSimpArgs false

theorem same_l0 (x y : List Int) (hl : x.length = y.length) (hx : x.length ≤ 9223372036854775807) : ∀ (d k i : Nat), i + d = x.length → d < k →
    hoodwinkref01_Same.l0 k x y (x.length : Int) (i : Int) = some (decide (x.drop i = y.drop i))
  | 0, k, i, hi, hk => by
    obtain ⟨k, rfl⟩ : ∃ q, k = q + 1 := ⟨k - 1, by omega⟩
    simp only [hoodwinkref01_Same.l0]
    rw [if_neg (by omega), List.drop_of_length_le (by omega), List.drop_of_length_le (by omega)]
    simp
  | d + 1, k, i, hi, hk => by
    obtain ⟨k, rfl⟩ : ∃ q, k = q + 1 := ⟨k - 1, by omega⟩
    have ih := same_l0 x y hl hx d k (i + 1) (by omega) (by omega)
    have hix : i < x.length := by omega
    have hiy : i < y.length := by omega
    simp only [hoodwinkref01_Same.l0]
    rw [if_pos (by omega), if_pos (by omega), if_pos (by omega), if_pos (by omega), next64 (by omega), rd_getElem hix, rd_getElem hiy]
    have e : decide (x.drop i = y.drop i) = decide (x[i] = y[i] ∧ x.drop (i + 1) = y.drop (i + 1)) :=
      decide_eq_decide.2 (by rw [List.drop_eq_getElem_cons hix, List.drop_eq_getElem_cons hiy, List.cons.injEq])
    rw [e]
    by_cases h : x[i] = y[i]
    · rw [if_pos h, ih]; exact congrArg some (decide_eq_decide.2 ⟨fun q => ⟨h, q⟩, fun q => q.2⟩)
    · rw [if_neg h, decide_eq_false (fun q => h q.1)]
theorem same_f (x y : List Int) (hx : x.length ≤ 9223372036854775807) : hoodwinkref01_Same.f (x.length + 1) x y = some (decide (x = y)) := by
  unfold hoodwinkref01_Same.f
  by_cases h : x.length = y.length
  · rw [if_pos (by omega)]
    have := same_l0 x y h hx x.length (x.length + 1) 0 (by omega) (by omega)
    simpa using this
  · rw [if_neg (by omega)]
    have : x ≠ y := fun e => h (by rw [e])
    simp [this]
theorem same_any (A B : Option Addr) (n m c c' : Nat) (x y : List Int) (w : World) (hx : (Kd.int .u8).C w A n x) (hc : n ≤ c) (hy : (Kd.int .u8).C w B m y) (hc' : m ≤ c') :
    Calls Try.prog 12 #[.slice A n c, .slice B m c'] w fun e w' => e = .returned (.bool (decide (x = y))) ∧ Below w.heap.size w w' := by
  have hm := hx.2.1
  obtain rfl := hx.1
  obtain rfl := hy.1
  exact (hoodwinkref01_Same.calls (x.length + 1) A c x B c' y _ w hx hc hy hc' (same_f x y hm)).mono fun e w' ⟨h1, h2⟩ => ⟨h1, h2.below⟩

/-- Bytes that are told. -/
def BvC (w : World) (l : List Int) (v : Value) : Prop := ∃ A c, v = .slice A l.length c ∧ l.length ≤ c ∧ (Kd.int .u8).C w A l.length l
theorem BvC.below {w w' : World} {l : List Int} {v : Value} (h : BvC w l v) (hb : Below w.heap.size w w') : BvC w' l v := by
  obtain ⟨A, c, h1, h2, h3⟩ := h
  exact ⟨A, c, h1, h2, Kd.C_below h3 hb⟩
theorem BvC.of_R {w : World} {b : Nat} {ok : Nat → Prop} {l : List Int} {v : Value} (h : (Kd.int .u8).R 5 w b ok v l) : BvC w l v := by
  obtain ⟨A, c, h1, h2, h3⟩ := Kd.R_reads h
  exact ⟨A, c, h1, h2, h3⟩
/-- A delta that is told. -/
def DvC (w : World) (tk hs : Int) (P : List Int) (C : List S30) (v : Value) : Prop :=
  ∃ A c A2 c2, v = .agg #[.int .u32 tk, .int .u32 hs, .slice A P.length c, .slice A2 C.length c2] ∧ P.length ≤ c ∧ C.length ≤ c2 ∧ (Kd.int .u8).C w A P.length P ∧ k30.C w A2 C.length C
theorem DvC.below {w w' : World} {tk hs : Int} {P : List Int} {C : List S30} {v : Value} (h : DvC w tk hs P C v) (hb : Below w.heap.size w w') : DvC w' tk hs P C v := by
  obtain ⟨A, c, A2, c2, h1, h2, h3, h4, h5⟩ := h
  exact ⟨A, c, A2, c2, h1, h2, h3, Kd.C_below h4 hb, Kd.C_below h5 hb⟩
theorem of_told (f : Nat → S30) (n t : Nat) (o tk : Int) (w : World) (hn : n ≤ 48) (ht : t < 18446744073709551616) (hf : ∀ k, k < n → U32 (f k).f1) :
    Calls Try.prog 13 #[.agg (boardC f n), .int .u64 t, .int .i64 o, .int .u32 tk] w fun e w' => ∃ v, e = .returned v ∧ DvC w' tk (sumB true (listF (viewF f n o) n)) (plL t n) (clL (viewF f n o) t n) v ∧ Below w.heap.size w w' :=
  (of_full f n t o tk w hn ht hf).mono fun e w' ⟨v, h1, h2, h3⟩ => ⟨v, h1, h2.cells, h3⟩
theorem full_told (f : Nat → S30) (n : Nat) (o tk : Int) (w : World) (hn : n ≤ 48) (hf : ∀ k, k < n → U32 (f k).f1) :
    Calls Try.prog 15 #[.agg (boardC f n), .int .i64 o, .int .u32 tk] w fun e w' => ∃ v, e = .returned v ∧ DvC w' tk (sumB true (listF (viewF f n o) n)) (plL allT n) (clL (viewF f n o) allT n) v ∧ Below w.heap.size w w' :=
  (full_any f n o tk w hn hf).mono fun e w' ⟨v, h1, h2, h3⟩ => ⟨v, h1, h2.cells, h3⟩
theorem risB_of : ∀ (l : List Int) (a : Int), l.Pairwise (· < ·) → (∀ x ∈ l, a < x ∧ x < 48) → risB a l = true
  | [], a, _, _ => rfl
  | x :: l, a, hp, h => by
    rw [List.pairwise_cons] at hp
    have hx := h x List.mem_cons_self
    rw [risB_cons, decide_eq_true hx.1, decide_eq_true hx.2, risB_of l x hp.2 (fun y hy => ⟨hp.1 y hy, (h y (List.mem_cons_of_mem _ hy)).2⟩)]; rfl
theorem right_of (f : Nat → S30) (t n : Nat) (hn : n ≤ 48) : rightB (plL t n) (clL f t n).length = true := by
  unfold rightB
  have h1 : (plL t n).length = (clL f t n).length := by unfold plL clL; rw [List.length_map, List.length_map]
  rw [risB_of, h1]
  · simp
  · unfold plL
    rw [List.pairwise_map]
    have : (touchL t n).Pairwise (· < ·) := List.Pairwise.filter _ List.pairwise_lt_range
    exact this.imp (fun h => by omega)
  · intro x hx
    unfold plL touchL at hx
    obtain ⟨k, hk, rfl⟩ := List.mem_map.1 hx
    have := List.mem_range.1 (List.mem_filter.1 hk).1
    omega
theorem touchL_mem {t n k : Nat} (h : k ∈ touchL t n) : k < n := List.mem_range.1 (List.mem_filter.1 h).1
theorem clL_congr {f h : Nat → S30} {t n : Nat} (e : ∀ i, i < n → f i = h i) : clL f t n = clL h t n := List.map_congr_left fun i hi => e i (touchL_mem hi)
theorem bytes_told (tk hs : Nat) (P : List Int) (C : List S30) (v : Value) (w : World) (hv : DvC w tk hs P C v) (hr : rightB P C.length = true) (htk : tk < 4294967296) (hhs : hs < 4294967296) (hU : ∀ x ∈ C, U32 x.f1) :
    Calls Try.prog 14 #[v] w fun e w' => ∃ v', e = .returned v' ∧ BvC w' (dBytes tk hs P C) v' ∧ Below w.heap.size w w' := by
  obtain ⟨A, c, A2, c2, rfl, h2, h3, h4, h5⟩ := hv
  exact (dbytes_yes tk hs A A2 _ c _ c2 P C w h4 h2 h5 h3 hr htk hhs hU).mono fun e w' ⟨v', k1, k2, k3⟩ => ⟨v', k1, BvC.of_R k2, k3⟩
theorem same_told (a b : List Int) (x y : Value) (w : World) (hx : BvC w a x) (hy : BvC w b y) :
    Calls Try.prog 12 #[x, y] w fun e w' => e = .returned (.bool (decide (a = b))) ∧ Below w.heap.size w w' := by
  obtain ⟨A, c, rfl, h1, h2⟩ := hx
  obtain ⟨A2, c2, rfl, h3, h4⟩ := hy
  exact same_any A A2 _ _ c c2 a b w h2 h1 h4 h3
end Go.Proofs.Ytkhlalpkkmjfnaa

namespace Go.Proofs.Ytkhlalpkkmjfnaa
open Go.RowKit Go.Proofs.YtkhlalpkkmjfnaaW.PrintWords Go.Proofs.YtkhlalpkkmjfnaaW.PrintLast Go.Proofs.YtkhlalpkkmjfnaaW.PrintMore
set_option linter.unusedVariables false
set_option linter.unusedSimpArgs false

/-- The first i of some cells, put at their places. -/
def putsF (f : Nat → S30) (P : List Int) (C : List S30) : Nat → Nat → S30
  | 0 => f
  | i + 1 => putF (putsF f P C i) (P.getD i 0).toNat (C.getD i z30)
theorem putsF_succ (f : Nat → S30) {P : List Int} {C : List S30} {i j : Nat} (hp : i < P.length) (hc : i < C.length) (hj : P[i] = (j : Int)) : putsF f P C (i + 1) = putF (putsF f P C i) j C[i] := by
  show putF _ _ _ = _
  rw [List.getD_eq_getElem?_getD, List.getElem?_eq_getElem hp, List.getD_eq_getElem?_getD, List.getElem?_eq_getElem hc]
  simp [hj]
theorem putsF_u32 {f : Nat → S30} {P : List Int} {C : List S30} {n : Nat} (hf : ∀ k, k < n → U32 (f k).f1) (hC : ∀ x ∈ C, U32 x.f1) : ∀ i, i ≤ C.length → ∀ k, k < n → U32 (putsF f P C i k).f1
  | 0, _, k, hk => hf k hk
  | i + 1, hi, k, hk => by
    show U32 (putF _ _ _ k).f1
    unfold putF
    split
    · rw [List.getD_eq_getElem?_getD, List.getElem?_eq_getElem (by omega)]
      exact hC _ (List.getElem_mem _)
    · exact putsF_u32 hf hC i (by omega) k hk

set_option maxRecDepth 100000 in
set_option maxHeartbeats 8000000 in
theorem apply_any (f : Nat → S30) (n : Nat) (tk hs : Int) (P : List Int) (C : List S30) (v : Value) (β : Bool) (w00 : World) (hv : DvC w00 tk hs P C v) (hn : n ≤ 48) (hl : P.length = C.length) (hm : P.length ≤ 48) (hP : ∀ x ∈ P, 0 ≤ x ∧ x < n) (hf : ∀ k, k < n → U32 (f k).f1) (hC : ∀ x ∈ C, U32 x.f1)
    (hβ : (((sumB true (listF (putsF f P C P.length) n) : Nat) : Int) == hs) = β) :
    Calls Try.prog 19 #[v, .agg (boardC f n)] w00 fun e w' => e = .returned (if β = true then .tuple #[.agg (boardC (putsF f P C P.length) n), .int .i64 0] else .tuple #[.agg (boardC f n), .int .i64 13]) ∧ Below w00.heap.size w00 w' := by
  obtain ⟨A, c, A2, c2, rfl, h2, h3, h4, h5⟩ := hv
  have hz := zero_board
  have HI := fun f m => Aside0.mk (board_info f m)
  have HO := fun f m => Aside0.mk (boardC_one f m)
  have HN := Aside0.mk hn
  have HR := Aside0.mk hP
  have HF : Aside0 (∀ z, Below w00.heap.size w00 z → (Kd.int .u8).C z A P.length P ∧ k30.C z A2 C.length C) := ⟨fun z hb => ⟨Kd.C_below h4 hb, Kd.C_below h5 hb⟩⟩
  have HUU := Aside0.mk (putsF_u32 (P := P) hf hC P.length (by omega))
  have H0 := Aside0.mk (((((Hp.start w00).alloc (.cells #[.int .u32 tk, .int .u32 hs, .slice A P.length c, .slice A2 C.length c2] 41)).allocAt (.cells (boardC f n) 34) (w00.heap.size + 1) (by simp)).allocAt (.cells (boardC (fun _ => z30) 0) 34) (w00.heap.size + 1 + 1) (by simp)))
  obtain ⟨F, hF⟩ : ∃ F, putsF f P C P.length = F := ⟨_, rfl⟩
  rw [hF] at hβ HUU
  rw [hF]
  have HFF := Aside0.mk hF
  obtain ⟨p, hp⟩ : ∃ p, P.length = p := ⟨_, rfl⟩
  have hcl : C.length = p := by omega
  rw [hp, hcl] at H0 HF
  rw [hp] at HFF hm
  rw [hp, hcl]
  have HPC := Aside0.mk (And.intro hp hcl)
  have HB := Aside0.mk hβ
  obtain ⟨hq, hH⟩ : ∃ hq, sumB true (listF F n) = hq := ⟨_, rfl⟩
  have KH := fun X : World => Aside0.mk (hash_any F n X HN.out HUU.out)
  rw [hH] at HB KH
  clear hn hl hP hf hC hβ h2 h3 h4 h5 hF hp hcl hH HUU
  go_enter Try.func19, Try.ntmps19
  go_upto_region 1 with fail
  generalize ((w00.alloc (.cells #[.int .u32 tk, .int .u32 hs, .slice A p c, .slice A2 p c2] 41)).alloc (.cells (boardC f n) 34)).alloc (.cells (boardC (fun _ => z30) 0) 34) = W at *
  obtain ⟨gd, hgd⟩ : ∃ gd, w00.heap.size = gd := ⟨_, rfl⟩
  rw [hgd] at H0 HF
  rw [hgd]
  have HGD := Aside0.mk hgd
  clear hgd
  have HZ := Aside0.mk (blk_new W (.cells (boardC (fun _ => z30) 0) 34))
  have H1 := Aside0.mk ((H0.out.alloc (.cells (boardC (fun _ => z30) 0) 34)).setRow (i := 0) rfl (boardC f n))
  have c2 := blk_cell (H1.out.get (i := 3) rfl) 2
  go_wp2_with (first | (refine wpList_load_row_g 34 (.tmp 3) rfl (gd + 1) rfl rfl 34 _ (0, 0) _ (H0.out.get (i := 1) rfl) Try.underlying34 rfl (HI _ _).out ?_) | (refine wpList_store_row rfl 34 (.tmp 6) (.tmp 10) rfl (W.heap.size) (boardC f n) rfl rfl 34 _ HZ.out (HI _ _).out (by rw [boardC_size, boardC_size]) (HO _ _).out ?_))
  clear c2 HZ H0
  generalize (W.alloc (.cells (boardC (fun _ => z30) 0) 34)).setRow W.heap.size (boardC f n) = W1 at *
  generalize W.heap.size = go at *
  go_loopw [14] (fun v14 wr => ∃ i : Nat, i ≤ p ∧ v14 = .int .i64 i ∧ Aside0 (Hp gd w00 wr [(go, .cells (boardC (putsF f P C i) n) 34 (0, 0)), (gd + 1 + 1, .cells (boardC (fun _ => z30) 0) 34 (0, 0)), (gd + 1, .cells (boardC f n) 34 (0, 0)), (gd, .cells #[.int .u32 tk, .int .u32 hs, .slice A p c, .slice A2 p c2] 41 (0, 0))] [])) (fun v14 _ => p - (intOf v14).toNat)
  case atStart => exact ⟨0, by omega, rfl, ⟨H1.out⟩⟩
  case round =>
    clear H1
    obtain ⟨i, hi, rfl, H⟩ := hrel
    by_cases hlt : i < p
    · have d1 : decide (i < p) = true := decide_eq_true hlt
      have d2 : decide (p ≤ i) = false := decide_eq_false (by omega)
      have hi0 : (0 : Int) ≤ i := by omega
      have him : (i : Int) < p := by omega
      have him2 : ¬ (p : Int) ≤ i := by omega
      have hiP : i < P.length := by rw [HPC.out.1]; exact hlt
      have hiC : i < C.length := by rw [HPC.out.2]; exact hlt
      obtain ⟨f1, f2⟩ := HF.out wr H.out.bel
      obtain ⟨adp, hA, p0⟩ := int_at f1 i hiP
      obtain ⟨adc, hA2, q0, q1⟩ := cell_at25 f2 hiC
      have HQ0 : Aside0 (∀ z, Below gd w00 z → ∃ ad, A2 = some ad ∧ z.cell? (ad.add (i * 2)) = some (.int .i32 C[i].f0) ∧ z.cell? ⟨(ad.add (i * 2)).block, (ad.add (i * 2)).off + 1, none⟩ = some (.int .u32 C[i].f1)) := ⟨fun z hz => cell_at25 (HF.out z hz).2 hiC⟩
      have HX := HR.out _ (List.getElem_mem hiP)
      obtain ⟨j, hj⟩ : ∃ j : Nat, P[i] = (j : Int) := ⟨P[i].toNat, by omega⟩
      have HST := Aside0.mk (putsF_succ f hiP hiC hj)
      rw [hj] at p0 HX
      obtain ⟨x, hx⟩ : ∃ x, C[i] = x := ⟨_, rfl⟩
      rw [hx] at HST HQ0
      subst hA hA2
      have HQ : Aside0 (∀ z, Below gd w00 z → z.cell? (adc.add (i * 2)) = some (.int .i32 x.f0) ∧ z.cell? ⟨(adc.add (i * 2)).block, (adc.add (i * 2)).off + 1, none⟩ = some (.int .u32 x.f1)) := ⟨fun z hz => by obtain ⟨ad, e, h⟩ := HQ0.out z hz; rw [Option.some.inj e]; exact h⟩
      have HJ : Aside0 (j < n) := ⟨by omega⟩
      have c2 := blk_cell (H.out.get (i := 3) rfl) 2
      have c3 := blk_cell (H.out.get (i := 3) rfl) 3
      have HJB : Aside0 (IntKind.i64.wrap (j : Int) = (j : Int)) := ⟨by have := HN.out; exact IntWalk.i64_in _ (by omega)⟩
      clear HX hj hx f1 f2 q0 q1 HQ0
      obtain ⟨G, hG⟩ : ∃ G, putsF f P C i = G := ⟨_, rfl⟩
      rw [hG] at H HST
      clear hG
      go_wp2_with fail
      clear c2 c3 p0
      refine regionS (W := wr)
        [fun _ v => v = .agg (boardC G n),
         fun _ v => v = .int .u8 j,
         fun _ v => v = .int .i64 j,
         fun _ v => v = .pointer (some ⟨gd, 3, none⟩),
         fun _ v => v = .slice (some adc) p c2,
         fun _ v => v = .int .i64 i,
         fun _ v => v = .pointer (some (adc.add (i * 2))),
         fun _ v => v = .agg #[.int .i32 x.f0, .int .u32 x.f1],
         fun _ v => v = .tuple #[.agg (boardC (putF G j x) n), .int .i64 0],
         fun _ v => v = .tuple #[.agg (boardC (putF G j x) n), .int .i64 0],
         fun _ v => v = .agg (boardC (putF G j x) n),
         fun _ v => v = .int .i64 0,
         fun _ _ => True,
         fun _ v => v = .int .i64 0]
        [8, 9, 10, 12]
        (fun t => match t with | 0 => fun (rs : List Value) (w : World) => Hp gd w00 w [(go, .cells (boardC (G) n) 34 (0, 0)), (gd + 1 + 1, .cells (boardC (fun _ => z30) 0) 34 (0, 0)), (gd + 1, .cells (boardC f n) 34 (0, 0)), (gd, .cells #[.int .u32 tk, .int .u32 hs, .slice (some adp) p c, .slice (some adc) p c2] 41 (0, 0))] [] | 1 => fun (rs : List Value) (w : World) => Hp gd w00 w [(go, .cells (boardC (G) n) 34 (0, 0)), (gd + 1 + 1, .cells (boardC (fun _ => z30) 0) 34 (0, 0)), (gd + 1, .cells (boardC f n) 34 (0, 0)), (gd, .cells #[.int .u32 tk, .int .u32 hs, .slice (some adp) p c, .slice (some adc) p c2] 41 (0, 0))] [] | 2 => fun (rs : List Value) (w : World) => Hp gd w00 w [(go, .cells (boardC (G) n) 34 (0, 0)), (gd + 1 + 1, .cells (boardC (fun _ => z30) 0) 34 (0, 0)), (gd + 1, .cells (boardC f n) 34 (0, 0)), (gd, .cells #[.int .u32 tk, .int .u32 hs, .slice (some adp) p c, .slice (some adc) p c2] 41 (0, 0))] [] | 3 => fun (rs : List Value) (w : World) => Hp gd w00 w [(go, .cells (boardC (G) n) 34 (0, 0)), (gd + 1 + 1, .cells (boardC (fun _ => z30) 0) 34 (0, 0)), (gd + 1, .cells (boardC f n) 34 (0, 0)), (gd, .cells #[.int .u32 tk, .int .u32 hs, .slice (some adp) p c, .slice (some adc) p c2] 41 (0, 0))] [] | 4 => fun (rs : List Value) (w : World) => Hp gd w00 w [(go, .cells (boardC (putF G j x) n) 34 (0, 0)), (gd + 1 + 1, .cells (boardC (fun _ => z30) 0) 34 (0, 0)), (gd + 1, .cells (boardC f n) 34 (0, 0)), (gd, .cells #[.int .u32 tk, .int .u32 hs, .slice (some adp) p c, .slice (some adc) p c2] 41 (0, 0))] [] | _ => fun _ _ => False)
        (fun _ _ _ => True) (fun w => Below gd w00 w ∧ gd ≤ w.heap.size ∧ w.heap[gd]? = some (.cells #[.int .u32 tk, .int .u32 hs, .slice (some adp) p c, .slice (some adc) p c2] 41 (0, 0)))
        (fun j =>  none)
        [(0, some 25), (1, some 26), (2, some 27), (3, some 28), (4, some 29), (5, some 30), (6, some 31), (7, some 32), (8, some 33), (9, some 24), (10, some 34), (11, some 35), (12, none), (13, some 9)]
        []
        (by kernel_rfl) (by kernel_rfl) (by kernel_rfl) (by kernel_rfl) (by kernel_rfl) ?z7_1c ?z7_1i ?z7_1b ?z7_1d ?z7_1g ⟨?z7_1t0, ?z7_1t1, ?z7_1t2, ?z7_1t3, ?z7_1t4, ?z7_1t5, ?z7_1t6, ?z7_1t7, ?z7_1t8, ?z7_1t9, ?z7_1t10, ?z7_1t11, ?z7_1t12, ?z7_1t13, trivial⟩ ⟨?z7_1o0, ?z7_1o1, ?z7_1o2, ?z7_1o3, ?z7_1o4, ?z7_1o5, ?z7_1o6, ?z7_1o7, ?z7_1o8, ?z7_1o9, ?z7_1o10, ?z7_1o11, ?z7_1o12, ?z7_1o13, trivial⟩ ?z7_1e
      case z7_1c => exact ⟨H.out.drew.bel, H.out.drew.le, H.out.drew.get (i := 3) rfl⟩
      case z7_1i => exact H.out.drew
      case z7_1b => intro w w' hb h; exact ⟨h.1.trans (hb.mono h.2.1), Nat.le_trans h.2.1 hb.size, blk_below h.2.2 hb⟩
      case z7_1d =>
        intro t rs w w' hb h
        match t, h with
        | 0, h => (replace h : Hp gd w00 w [(go, .cells (boardC (G) n) 34 (0, 0)), (gd + 1 + 1, .cells (boardC (fun _ => z30) 0) 34 (0, 0)), (gd + 1, .cells (boardC f n) 34 (0, 0)), (gd, .cells #[.int .u32 tk, .int .u32 hs, .slice (some adp) p c, .slice (some adc) p c2] 41 (0, 0))] [] := h); show Hp gd w00 w' [(go, .cells (boardC (G) n) 34 (0, 0)), (gd + 1 + 1, .cells (boardC (fun _ => z30) 0) 34 (0, 0)), (gd + 1, .cells (boardC f n) 34 (0, 0)), (gd, .cells #[.int .u32 tk, .int .u32 hs, .slice (some adp) p c, .slice (some adc) p c2] 41 (0, 0))] []; exact h.call hb
        | 1, h => (replace h : Hp gd w00 w [(go, .cells (boardC (G) n) 34 (0, 0)), (gd + 1 + 1, .cells (boardC (fun _ => z30) 0) 34 (0, 0)), (gd + 1, .cells (boardC f n) 34 (0, 0)), (gd, .cells #[.int .u32 tk, .int .u32 hs, .slice (some adp) p c, .slice (some adc) p c2] 41 (0, 0))] [] := h); show Hp gd w00 w' [(go, .cells (boardC (G) n) 34 (0, 0)), (gd + 1 + 1, .cells (boardC (fun _ => z30) 0) 34 (0, 0)), (gd + 1, .cells (boardC f n) 34 (0, 0)), (gd, .cells #[.int .u32 tk, .int .u32 hs, .slice (some adp) p c, .slice (some adc) p c2] 41 (0, 0))] []; exact h.call hb
        | 2, h => (replace h : Hp gd w00 w [(go, .cells (boardC (G) n) 34 (0, 0)), (gd + 1 + 1, .cells (boardC (fun _ => z30) 0) 34 (0, 0)), (gd + 1, .cells (boardC f n) 34 (0, 0)), (gd, .cells #[.int .u32 tk, .int .u32 hs, .slice (some adp) p c, .slice (some adc) p c2] 41 (0, 0))] [] := h); show Hp gd w00 w' [(go, .cells (boardC (G) n) 34 (0, 0)), (gd + 1 + 1, .cells (boardC (fun _ => z30) 0) 34 (0, 0)), (gd + 1, .cells (boardC f n) 34 (0, 0)), (gd, .cells #[.int .u32 tk, .int .u32 hs, .slice (some adp) p c, .slice (some adc) p c2] 41 (0, 0))] []; exact h.call hb
        | 3, h => (replace h : Hp gd w00 w [(go, .cells (boardC (G) n) 34 (0, 0)), (gd + 1 + 1, .cells (boardC (fun _ => z30) 0) 34 (0, 0)), (gd + 1, .cells (boardC f n) 34 (0, 0)), (gd, .cells #[.int .u32 tk, .int .u32 hs, .slice (some adp) p c, .slice (some adc) p c2] 41 (0, 0))] [] := h); show Hp gd w00 w' [(go, .cells (boardC (G) n) 34 (0, 0)), (gd + 1 + 1, .cells (boardC (fun _ => z30) 0) 34 (0, 0)), (gd + 1, .cells (boardC f n) 34 (0, 0)), (gd, .cells #[.int .u32 tk, .int .u32 hs, .slice (some adp) p c, .slice (some adc) p c2] 41 (0, 0))] []; exact h.call hb
        | 4, h => (replace h : Hp gd w00 w [(go, .cells (boardC (putF G j x) n) 34 (0, 0)), (gd + 1 + 1, .cells (boardC (fun _ => z30) 0) 34 (0, 0)), (gd + 1, .cells (boardC f n) 34 (0, 0)), (gd, .cells #[.int .u32 tk, .int .u32 hs, .slice (some adp) p c, .slice (some adc) p c2] 41 (0, 0))] [] := h); show Hp gd w00 w' [(go, .cells (boardC (putF G j x) n) 34 (0, 0)), (gd + 1 + 1, .cells (boardC (fun _ => z30) 0) 34 (0, 0)), (gd + 1, .cells (boardC f n) 34 (0, 0)), (gd, .cells #[.int .u32 tk, .int .u32 hs, .slice (some adp) p c, .slice (some adc) p c2] 41 (0, 0))] []; exact h.call hb
        | _ + 5, h => exact h.elim
      case z7_1g =>
        intro j hj; cases hj
      case z7_1t0 => exact StabS.const _ _ _ _
      case z7_1t1 => exact StabS.const _ _ _ _
      case z7_1t2 => exact StabS.const _ _ _ _
      case z7_1t3 => exact StabS.const _ _ _ _
      case z7_1t4 => exact StabS.const _ _ _ _
      case z7_1t5 => exact StabS.const _ _ _ _
      case z7_1t6 => exact StabS.const _ _ _ _
      case z7_1t7 => exact StabS.const _ _ _ _
      case z7_1t8 => exact StabS.const _ _ _ _
      case z7_1t9 => exact StabS.const _ _ _ _
      case z7_1t10 => exact StabS.const _ _ _ _
      case z7_1t11 => exact StabS.const _ _ _ _
      case z7_1t12 => exact StabS.const _ _ _ _
      case z7_1t13 => exact StabS.const _ _ _ _
      case z7_1o0 =>
        intro vs w t hC ht1 ht2 hS hV
        have ht0 : t ≤ 0 := by
          rcases Nat.lt_or_ge 0 t with hq | hq
          · exact absurd (ht1 0 8 _ hq rfl rfl) (by decide +kernel)
          · exact hq
        obtain rfl : t = 0 := by omega
        replace hS : Hp gd w00 w [(go, .cells (boardC (G) n) 34 (0, 0)), (gd + 1 + 1, .cells (boardC (fun _ => z30) 0) 34 (0, 0)), (gd + 1, .cells (boardC f n) 34 (0, 0)), (gd, .cells #[.int .u32 tk, .int .u32 hs, .slice (some adp) p c, .slice (some adc) p c2] 41 (0, 0))] [] := hS
        rw [if_pos (by kernel_rfl)]
        generalize hρ : rho _ _ _ vs = ρ
        have e6 : ρ (.tmp 6) = .pointer (some ⟨go, 0, none⟩) := by rw [← hρ]; kernel_rfl
        clear hρ hV
        exact runs_load 34 (.tmp 6) rfl go e6 34 (boardC G n) (0, 0) _ (hS.get (i := 0) rfl) Try.underlying34 rfl (HI _ _).out ⟨Below.refl _ _, rfl⟩
      case z7_1o1 =>
        intro vs w t hC ht1 ht2 hS hV
        rw [if_pos (by kernel_rfl)]
        generalize hρ : rho _ _ _ vs = ρ
        have e8 : ρ (.tmp 8) = .int .u8 j := by rw [← hρ]; kernel_rfl
        clear hρ hV
        refine runs_val (v := .int .u8 j) (w' := w) ?_ ⟨Below.refl _ _, rfl⟩
        clear ht1 ht2 hS hC
        go_simp <;> (first | exact IntWalk.u64_in _ (by omega) | exact IntWalk.u32_in _ (by omega) | exact IntWalk.u16_in _ (by omega) | exact IntWalk.u8_in _ (by omega) | exact IntWalk.i64_in _ (by omega) | skip)
      case z7_1o2 =>
        intro vs w t hC ht1 ht2 hS hV
        rw [if_pos (by kernel_rfl)]
        generalize hρ : rho _ _ _ vs = ρ
        have d26 : (vs 1) = .int .u8 j := hV 1 (by kernel_rfl)
        have e26 : ρ (.tmp 26) = vs 1 := by rw [← hρ]; kernel_rfl
        rw [d26] at e26; clear d26
        clear hρ hV
        have ix := HJB.out
        refine runs_val (v := .int .i64 j) (w' := w) ?_ ⟨Below.refl _ _, rfl⟩
        clear ht1 ht2 hS hC
        go_simp
      case z7_1o3 =>
        intro vs w t hC ht1 ht2 hS hV
        rw [if_pos (by kernel_rfl)]
        generalize hρ : rho _ _ _ vs = ρ
        have e2 : ρ (.tmp 2) = .pointer (some ⟨gd, 0, none⟩) := by rw [← hρ]; kernel_rfl
        clear hρ hV
        refine runs_val (v := .pointer (some ⟨gd, 3, none⟩)) (w' := w) ?_ ⟨Below.refl _ _, rfl⟩
        clear ht1 ht2 hS hC
        go_simp <;> (first | exact IntWalk.u64_in _ (by omega) | exact IntWalk.u32_in _ (by omega) | exact IntWalk.u16_in _ (by omega) | exact IntWalk.u8_in _ (by omega) | exact IntWalk.i64_in _ (by omega) | skip)
      case z7_1o4 =>
        intro vs w t hC ht1 ht2 hS hV
        rw [if_pos (by kernel_rfl)]
        generalize hρ : rho _ _ _ vs = ρ
        have d28 : (vs 3) = .pointer (some ⟨gd, 3, none⟩) := hV 3 (by kernel_rfl)
        have e28 : ρ (.tmp 28) = vs 3 := by rw [← hρ]; kernel_rfl
        rw [d28] at e28; clear d28
        clear hρ hV
        have c0 := blk_cell hC.2.2 3
        refine runs_val (v := .slice (some adc) p c2) (w' := w) ?_ ⟨Below.refl _ _, rfl⟩
        clear ht1 ht2 hS hC
        go_simp
      case z7_1o5 =>
        intro vs w t hC ht1 ht2 hS hV
        rw [if_pos (by kernel_rfl)]
        generalize hρ : rho _ _ _ vs = ρ
        have e7 : ρ (.tmp 7) = .int .i64 i := by rw [← hρ]; kernel_rfl
        clear hρ hV
        refine runs_val (v := .int .i64 i) (w' := w) ?_ ⟨Below.refl _ _, rfl⟩
        clear ht1 ht2 hS hC
        go_simp <;> (first | exact IntWalk.u64_in _ (by omega) | exact IntWalk.u32_in _ (by omega) | exact IntWalk.u16_in _ (by omega) | exact IntWalk.u8_in _ (by omega) | exact IntWalk.i64_in _ (by omega) | skip)
      case z7_1o6 =>
        intro vs w t hC ht1 ht2 hS hV
        rw [if_pos (by kernel_rfl)]
        generalize hρ : rho _ _ _ vs = ρ
        have d29 : (vs 4) = .slice (some adc) p c2 := hV 4 (by kernel_rfl)
        have e29 : ρ (.tmp 29) = vs 4 := by rw [← hρ]; kernel_rfl
        rw [d29] at e29; clear d29
        have d30 : (vs 5) = .int .i64 i := hV 5 (by kernel_rfl)
        have e30 : ρ (.tmp 30) = vs 5 := by rw [← hρ]; kernel_rfl
        rw [d30] at e30; clear d30
        clear hρ hV
        refine runs_val (v := .pointer (some (adc.add (i * 2)))) (w' := w) ?_ ⟨Below.refl _ _, rfl⟩
        clear ht1 ht2 hS hC
        go_simp <;> (first | exact IntWalk.u64_in _ (by omega) | exact IntWalk.u32_in _ (by omega) | exact IntWalk.u16_in _ (by omega) | exact IntWalk.u8_in _ (by omega) | exact IntWalk.i64_in _ (by omega) | skip)
      case z7_1o7 =>
        intro vs w t hC ht1 ht2 hS hV
        rw [if_pos (by kernel_rfl)]
        generalize hρ : rho _ _ _ vs = ρ
        have d31 : (vs 6) = .pointer (some (adc.add (i * 2))) := hV 6 (by kernel_rfl)
        have e31 : ρ (.tmp 31) = vs 6 := by rw [← hρ]; kernel_rfl
        rw [d31] at e31; clear d31
        clear hρ hV
        obtain ⟨q0, q1⟩ := HQ.out w hC.1
        refine runs_val (v := .agg #[.int .i32 x.f0, .int .u32 x.f1]) (w' := w) ?_ ⟨Below.refl _ _, rfl⟩
        clear ht1 ht2 hS hC
        go_simp
      case z7_1o8 =>
        intro vs w hC hS hV
        replace hS : Hp gd w00 w [(go, .cells (boardC (G) n) 34 (0, 0)), (gd + 1 + 1, .cells (boardC (fun _ => z30) 0) 34 (0, 0)), (gd + 1, .cells (boardC f n) 34 (0, 0)), (gd, .cells #[.int .u32 tk, .int .u32 hs, .slice (some adp) p c, .slice (some adc) p c2] 41 (0, 0))] [] := hS
        rw [if_pos (by kernel_rfl)]
        generalize hρ : rho _ _ _ vs = ρ
        have d25 : (vs 0) = .agg (boardC G n) := hV 0 (by kernel_rfl)
        have e25 : ρ (.tmp 25) = vs 0 := by rw [← hρ]; kernel_rfl
        rw [d25] at e25; clear d25
        have d27 : (vs 2) = .int .i64 j := hV 2 (by kernel_rfl)
        have e27 : ρ (.tmp 27) = vs 2 := by rw [← hρ]; kernel_rfl
        rw [d27] at e27; clear d27
        have d32 : (vs 7) = .agg #[.int .i32 x.f0, .int .u32 x.f1] := hV 7 (by kernel_rfl)
        have e32 : ρ (.tmp 32) = vs 7 := by rw [← hρ]; kernel_rfl
        rw [d32] at e32; clear d32
        have ef18 : ρ (.func 18) = .func (.func 18) #[] #[] := by rw [← hρ]; rfl
        clear hρ hV
        refine runs_call (f := 18) (args := #[.agg (boardC G n), .int .i64 j, .agg #[.int .i32 x.f0, .int .u32 x.f1]]) (w' := w) ?_ ?_
        · go_simp
        · refine (put_any G n j x _ HJ.out HN.out).mono ?_
          rintro e w5 ⟨rfl, hb5⟩
          exact ⟨_, rfl, ⟨hC.1.trans (hb5.mono hC.2.1), Nat.le_trans hC.2.1 hb5.size, blk_below hC.2.2 hb5⟩, trivial, rfl, hS.call hb5⟩
      case z7_1o9 =>
        intro vs w hC hS hV
        replace hS : Hp gd w00 w [(go, .cells (boardC (G) n) 34 (0, 0)), (gd + 1 + 1, .cells (boardC (fun _ => z30) 0) 34 (0, 0)), (gd + 1, .cells (boardC f n) 34 (0, 0)), (gd, .cells #[.int .u32 tk, .int .u32 hs, .slice (some adp) p c, .slice (some adc) p c2] 41 (0, 0))] [] := hS
        rw [if_pos (by kernel_rfl)]
        generalize hρ : rho _ _ _ vs = ρ
        have d33 : (vs 8) = .tuple #[.agg (boardC (putF G j x) n), .int .i64 0] := hV 8 (by kernel_rfl)
        have e33 : ρ (.tmp 33) = vs 8 := by rw [← hρ]; kernel_rfl
        rw [d33] at e33; clear d33
        clear hρ hV
        refine runs_val (v := .tuple #[.agg (boardC (putF G j x) n), .int .i64 0]) (w' := w) ?_ ⟨hC, trivial, rfl, hS⟩
        go_simp
      case z7_1o10 =>
        intro vs w hC hS hV
        replace hS : Hp gd w00 w [(go, .cells (boardC (G) n) 34 (0, 0)), (gd + 1 + 1, .cells (boardC (fun _ => z30) 0) 34 (0, 0)), (gd + 1, .cells (boardC f n) 34 (0, 0)), (gd, .cells #[.int .u32 tk, .int .u32 hs, .slice (some adp) p c, .slice (some adc) p c2] 41 (0, 0))] [] := hS
        rw [if_pos (by kernel_rfl)]
        generalize hρ : rho _ _ _ vs = ρ
        have d24 : (vs 9) = .tuple #[.agg (boardC (putF G j x) n), .int .i64 0] := hV 9 (by kernel_rfl)
        have e24 : ρ (.tmp 24) = vs 9 := by rw [← hρ]; kernel_rfl
        rw [d24] at e24; clear d24
        clear hρ hV
        refine runs_val (v := .agg (boardC (putF G j x) n)) (w' := w) ?_ ⟨hC, trivial, rfl, hS⟩
        go_simp
      case z7_1o11 =>
        intro vs w t hC ht1 ht2 hS hV
        rw [if_pos (by kernel_rfl)]
        generalize hρ : rho _ _ _ vs = ρ
        have d24 : (vs 9) = .tuple #[.agg (boardC (putF G j x) n), .int .i64 0] := hV 9 (by kernel_rfl)
        have e24 : ρ (.tmp 24) = vs 9 := by rw [← hρ]; kernel_rfl
        rw [d24] at e24; clear d24
        clear hρ hV
        refine runs_val (v := .int .i64 0) (w' := w) ?_ ⟨Below.refl _ _, rfl⟩
        clear ht1 ht2 hS hC
        go_simp <;> (first | exact IntWalk.u64_in _ (by omega) | exact IntWalk.u32_in _ (by omega) | exact IntWalk.u16_in _ (by omega) | exact IntWalk.u8_in _ (by omega) | exact IntWalk.i64_in _ (by omega) | skip)
      case z7_1o12 =>
        intro vs w hC hS hV
        replace hS : Hp gd w00 w [(go, .cells (boardC (G) n) 34 (0, 0)), (gd + 1 + 1, .cells (boardC (fun _ => z30) 0) 34 (0, 0)), (gd + 1, .cells (boardC f n) 34 (0, 0)), (gd, .cells #[.int .u32 tk, .int .u32 hs, .slice (some adp) p c, .slice (some adc) p c2] 41 (0, 0))] [] := hS
        rw [if_pos (by kernel_rfl)]
        generalize hρ : rho _ _ _ vs = ρ
        have e6 : ρ (.tmp 6) = .pointer (some ⟨go, 0, none⟩) := by rw [← hρ]; kernel_rfl
        have d34 : (vs 10) = .agg (boardC (putF G j x) n) := hV 10 (by kernel_rfl)
        have e34 : ρ (.tmp 34) = vs 10 := by rw [← hρ]; kernel_rfl
        rw [d34] at e34; clear d34
        clear hρ hV
        have hS2 := hS.setRow (i := 0) rfl (boardC (putF G j x) n)
        exact runs_store_row 34 (.tmp 6) (.tmp 34) rfl go (boardC (putF G j x) n) e6 e34 34 (boardC G n) (hS.get (i := 0) rfl) (HI _ _).out (by rw [boardC_size, boardC_size]) (HO _ _).out ⟨⟨hS2.bel, hS2.le, hS2.get (i := 3) rfl⟩, trivial, trivial, hS2⟩
      case z7_1o13 =>
        intro vs w t hC ht1 ht2 hS hV
        rw [if_pos (by kernel_rfl)]
        generalize hρ : rho _ _ _ vs = ρ
        have d35 : (vs 11) = .int .i64 0 := hV 11 (by kernel_rfl)
        have e35 : ρ (.tmp 35) = vs 11 := by rw [← hρ]; kernel_rfl
        clear hρ hV
        refine runs_val (v := vs 11) (w' := w) ?_ ⟨Below.refl _ _, d35⟩
        go_simp
      case z7_1e =>
        intro vs z1 hC hS hV
        replace hS : (fun (w : World) => Hp gd w00 w [(go, .cells (boardC (putF G j x) n) 34 (0, 0)), (gd + 1 + 1, .cells (boardC (fun _ => z30) 0) 34 (0, 0)), (gd + 1, .cells (boardC f n) 34 (0, 0)), (gd, .cells #[.int .u32 tk, .int .u32 hs, .slice (some adp) p c, .slice (some adc) p c2] 41 (0, 0))] []) z1 := hS
        have d25 : (vs 0) = .agg (boardC G n) := hV 0 (Nat.le_of_ble_eq_true rfl)
        have d26 : (vs 1) = .int .u8 j := hV 1 (Nat.le_of_ble_eq_true rfl)
        have d27 : (vs 2) = .int .i64 j := hV 2 (Nat.le_of_ble_eq_true rfl)
        have d28 : (vs 3) = .pointer (some ⟨gd, 3, none⟩) := hV 3 (Nat.le_of_ble_eq_true rfl)
        have d29 : (vs 4) = .slice (some adc) p c2 := hV 4 (Nat.le_of_ble_eq_true rfl)
        have d30 : (vs 5) = .int .i64 i := hV 5 (Nat.le_of_ble_eq_true rfl)
        have d31 : (vs 6) = .pointer (some (adc.add (i * 2))) := hV 6 (Nat.le_of_ble_eq_true rfl)
        have d32 : (vs 7) = .agg #[.int .i32 x.f0, .int .u32 x.f1] := hV 7 (Nat.le_of_ble_eq_true rfl)
        have d33 : (vs 8) = .tuple #[.agg (boardC (putF G j x) n), .int .i64 0] := hV 8 (Nat.le_of_ble_eq_true rfl)
        have d24 : (vs 9) = .tuple #[.agg (boardC (putF G j x) n), .int .i64 0] := hV 9 (Nat.le_of_ble_eq_true rfl)
        have d34 : (vs 10) = .agg (boardC (putF G j x) n) := hV 10 (Nat.le_of_ble_eq_true rfl)
        have d35 : (vs 11) = .int .i64 0 := hV 11 (Nat.le_of_ble_eq_true rfl)
        have d9 : (vs 13) = .int .i64 0 := hV 13 (Nat.le_of_ble_eq_true rfl)
        clear hV
        simp only [putAll]
        rw [d25, d26, d27, d28, d29, d30, d31, d32, d33, d24, d34, d35, d9]
        clear d25 d26 d27 d28 d29 d30 d31 d32 d33 d24 d34 d35 d9
        generalize vs 12 = vN12
        clear vs
        simp only [Act.put, List.setIfInBounds_toArray, List.set_cons_zero, List.set_cons_succ]
        have H2 := Aside0.mk hS
        clear hS hC H
        go_wp2_with fail
        go_roundw
        case rel => exact ⟨i + 1, by omega, by go_num, ⟨by rw [HST.out]; exact H2.out⟩⟩
        case measure => simp [intOf]; omega
    · obtain rfl : i = p := by omega
      have d1 : decide (i < i) = false := decide_eq_false (by omega)
      rw [HFF.out] at H
      clear hlt hi
      go_wp2_with fail
      refine region_grown (W := wr)
        [fun (w : World) (v : Value) => v = .agg (boardC F n),
         fun (w : World) (v : Value) => v = .int .u32 hq,
         fun (w : World) (v : Value) => v = .pointer (some ⟨gd, 1, none⟩),
         fun (w : World) (v : Value) => v = .int .u32 hs,
         fun (w : World) (v : Value) => v = .bool (!β)]
        (fun j =>  none)
        [(0, some 41), (1, some 42), (2, some 43), (3, some 44), (4, some 45)]
        []
        (by kernel_rfl) (by kernel_rfl) (by kernel_rfl) (by kernel_rfl) ?r11_2g ?r11_2s ⟨?r11_2o0, ?r11_2o1, ?r11_2o2, ?r11_2o3, ?r11_2o4, trivial⟩ ?r11_2e
      case r11_2g =>
        intro j hj; cases hj
      case r11_2s =>
        refine ⟨(fun w w' v hb h => h), (fun w w' v hb h => h), (fun w w' v hb h => h), (fun w w' v hb h => h), (fun w w' v hb h => h), trivial⟩
      case r11_2o0 =>
        intro vs w hb hV
        rw [if_pos (by kernel_rfl)]
        generalize hρ : rho _ _ _ vs = ρ
        have e6 : ρ (.tmp 6) = .pointer (some ⟨go, 0, none⟩) := by rw [← hρ]; kernel_rfl
        clear hρ hV
        exact runs_load 34 (.tmp 6) rfl go e6 34 (boardC F n) (0, 0) _ (((hb.block go (blk_lt (H.out.get (i := 0) rfl))).trans (H.out.get (i := 0) rfl))) Try.underlying34 rfl (HI _ _).out ⟨Below.refl _ _, rfl⟩
      case r11_2o1 =>
        intro vs w hb hV
        rw [if_pos (by kernel_rfl)]
        generalize hρ : rho _ _ _ vs = ρ
        have d41 : (vs 0) = .agg (boardC F n) := hV 0 (by kernel_rfl)
        have e41 : ρ (.tmp 41) = vs 0 := by rw [← hρ]; kernel_rfl
        rw [d41] at e41; clear d41
        have ef35 : ρ (.func 35) = .func (.func 35) #[] #[] := by rw [← hρ]; rfl
        clear hρ hV
        refine runs_call (f := 35) (args := #[.agg (boardC F n)]) (w' := w) ?_ ?_
        · go_simp
        · refine (KH _).out.mono ?_
          rintro e w5 ⟨rfl, hb5⟩
          exact ⟨_, rfl, hb5, rfl⟩
      case r11_2o2 =>
        intro vs w hb hV
        rw [if_pos (by kernel_rfl)]
        generalize hρ : rho _ _ _ vs = ρ
        have e2 : ρ (.tmp 2) = .pointer (some ⟨gd, 0, none⟩) := by rw [← hρ]; kernel_rfl
        clear hρ hV
        refine runs_val (v := .pointer (some ⟨gd, 1, none⟩)) (w' := w) ?_ ⟨Below.refl _ _, rfl⟩
        go_simp <;> (first | exact IntWalk.u64_in _ (by omega) | exact IntWalk.u32_in _ (by omega) | exact IntWalk.u16_in _ (by omega) | exact IntWalk.u8_in _ (by omega) | exact IntWalk.i64_in _ (by omega) | skip)
      case r11_2o3 =>
        intro vs w hb hV
        rw [if_pos (by kernel_rfl)]
        generalize hρ : rho _ _ _ vs = ρ
        have d43 : (vs 2) = .pointer (some ⟨gd, 1, none⟩) := hV 2 (by kernel_rfl)
        have e43 : ρ (.tmp 43) = vs 2 := by rw [← hρ]; kernel_rfl
        rw [d43] at e43; clear d43
        clear hρ hV
        have c0 := pw_cell_below hb (show wr.cell? ⟨gd, 1, none⟩ = some (.int .u32 hs) from blk_cell (H.out.get (i := 3) rfl) 1)
        refine runs_val (v := .int .u32 hs) (w' := w) ?_ ⟨Below.refl _ _, rfl⟩
        go_simp
      case r11_2o4 =>
        intro vs w hb hV
        rw [if_pos (by kernel_rfl)]
        generalize hρ : rho _ _ _ vs = ρ
        have d42 : (vs 1) = .int .u32 hq := hV 1 (by kernel_rfl)
        have e42 : ρ (.tmp 42) = vs 1 := by rw [← hρ]; kernel_rfl
        rw [d42] at e42; clear d42
        have d44 : (vs 3) = .int .u32 hs := hV 3 (by kernel_rfl)
        have e44 : ρ (.tmp 44) = vs 3 := by rw [← hρ]; kernel_rfl
        rw [d44] at e44; clear d44
        clear hρ hV
        have hbq := HB.out
        refine runs_val (v := .bool (!β)) (w' := w) ?_ ⟨Below.refl _ _, rfl⟩
        go_simp
        unfold bne
        rw [hbq]
      case r11_2e =>
        intro vs z1 hb1 hV
        have d41 : (vs 0) = .agg (boardC F n) := hV 0 (Nat.le_of_ble_eq_true rfl)
        have d42 : (vs 1) = .int .u32 hq := hV 1 (Nat.le_of_ble_eq_true rfl)
        have d43 : (vs 2) = .pointer (some ⟨gd, 1, none⟩) := hV 2 (Nat.le_of_ble_eq_true rfl)
        have d44 : (vs 3) = .int .u32 hs := hV 3 (Nat.le_of_ble_eq_true rfl)
        have d45 : (vs 4) = .bool (!β) := hV 4 (Nat.le_of_ble_eq_true rfl)
        clear hV
        simp only [putAll]
        rw [d41, d42, d43, d44, d45]
        clear d41 d42 d43 d44 d45
        clear vs
        simp only [Act.put, List.setIfInBounds_toArray, List.set_cons_zero, List.set_cons_succ]
        have H2 := Aside0.mk (H.out.call hb1)
        clear hb1 H
        cases β with
        | true =>
          go_wp2_with (first | (refine wpList_load_row_g 34 (.tmp 6) rfl go rfl rfl 34 _ (0, 0) _ (H2.out.get (i := 0) rfl) Try.underlying34 rfl (HI _ _).out ?_) | (refine wpList_store_row rfl 34 (.tmp 4) (.tmp 47) rfl (gd + 1 + 1) (boardC F n) rfl rfl 34 _ (H2.out.get (i := 1) rfl) (HI _ _).out (by rw [boardC_size, boardC_size]) (HO _ _).out ?_))
          have H3 := Aside0.mk (H2.out.setRow (i := 1) rfl (boardC F n))
          refine bodyPost_ret (results_ct rfl _ _ (gd + 1 + 1) _ (boardC F n) (0, 0) _ rfl (H3.out.get (i := 1) rfl) Try.underlying34 rfl (HI _ _).out) rfl ?_
          rw [HGD.out]
          exact ⟨rfl, H3.out.bel⟩
        | false =>
          go_wp2_with (first | (refine wpList_load_row_g 34 (.tmp 3) rfl (gd + 1) rfl rfl 34 _ (0, 0) _ (H2.out.get (i := 2) rfl) Try.underlying34 rfl (HI _ _).out ?_) | (refine wpList_store_row rfl 34 (.tmp 4) (.tmp 46) rfl (gd + 1 + 1) (boardC f n) rfl rfl 34 _ (H2.out.get (i := 1) rfl) (HI _ _).out (by rw [boardC_size, boardC_size]) (HO _ _).out ?_))
          have H3 := Aside0.mk (H2.out.setRow (i := 1) rfl (boardC f n))
          refine bodyPost_ret (results_ct rfl _ _ (gd + 1 + 1) _ (boardC f n) (0, 0) _ rfl (H3.out.get (i := 1) rfl) Try.underlying34 rfl (HI _ _).out) rfl ?_
          rw [HGD.out]
          exact ⟨rfl, H3.out.bel⟩
end Go.Proofs.Ytkhlalpkkmjfnaa

namespace Go.Proofs.Ytkhlalpkkmjfnaa
open Go.RowKit Go.Proofs.YtkhlalpkkmjfnaaW.PrintWords Go.Proofs.YtkhlalpkkmjfnaaW.PrintLast Go.Proofs.YtkhlalpkkmjfnaaW.PrintMore
set_option linter.unusedVariables false
set_option linter.unusedSimpArgs false

set_option maxRecDepth 100000 in
set_option maxHeartbeats 8000000 in
theorem dboard_any (tk hs : Int) (m : Nat) (P : List Int) (C : List S30) (v : Value) (β : Bool) (w00 : World) (hv : DvC w00 tk hs P C v) (hm : m ≤ 48) (hl : P.length = m) (hlc : C.length = m) (hP : ∀ (i : Nat) (h : i < P.length), P[i] = (i : Int)) (hC : ∀ x ∈ C, U32 x.f1)
    (hβ : (((sumB true C : Nat) : Int) == hs) = β) :
    Calls Try.prog 20 #[v] w00 fun e w' => e = .returned (if β = true then .tuple #[.agg (boardC (fL C) m), .int .i64 0] else .tuple #[.agg (boardC (fun _ => z30) 0), .int .i64 13]) ∧ Below w00.heap.size w00 w' := by
  obtain ⟨A, c, A2, c2, rfl, h2, h3, h4, h5⟩ := hv
  rw [hl, hlc]
  rw [hl] at h2 h4
  rw [hlc] at h3 h5
  have hz := zero_board
  have HI := fun f m => Aside0.mk (board_info f m)
  have HO := fun f m => Aside0.mk (boardC_one f m)
  have HM := Aside0.mk hm
  have HPI := Aside0.mk hP
  have HPC := Aside0.mk (And.intro hl hlc)
  have HC2 := Aside0.mk h3
  have HF : Aside0 (∀ z, Below w00.heap.size w00 z → (Kd.int .u8).C z A m P ∧ k30.C z A2 m C) := ⟨fun z hb => ⟨Kd.C_below h4 hb, Kd.C_below h5 hb⟩⟩
  have H0 := Aside0.mk (((Hp.start w00).alloc (.cells #[.int .u32 tk, .int .u32 hs, .slice A m c, .slice A2 m c2] 41)).allocAt (.cells (boardC (fun _ => z30) 0) 34) (w00.heap.size + 1) (by simp))
  have hlF : listF (fL C) m = C := by rw [← hlc]; exact listF_fL C
  have KH := fun X : World => Aside0.mk (hash_any (fL C) m X hm (fun k hk => by rw [fL_get (by rw [hlc]; exact hk)]; exact hC _ (List.getElem_mem _)))
  rw [hlF] at KH
  have HB := Aside0.mk hβ
  generalize sumB true C = hq at *
  clear hm hl hlc hP hC hβ h2 h3 h4 h5 hlF
  go_enter Try.func20, Try.ntmps20
  go_upto_region 1 with fail
  generalize (w00.alloc (.cells #[.int .u32 tk, .int .u32 hs, .slice A m c, .slice A2 m c2] 41)).alloc (.cells (boardC (fun _ => z30) 0) 34) = W at *
  obtain ⟨gd, hgd⟩ : ∃ gd, w00.heap.size = gd := ⟨_, rfl⟩
  rw [hgd] at H0 HF
  rw [hgd]
  have HGD := Aside0.mk hgd
  clear hgd
  have c2' := blk_cell (H0.out.get (i := 1) rfl) 2
  go_wp2_with fail
  clear c2'
  go_loopw [11] (fun v11 wr => ∃ i : Nat, i ≤ m ∧ v11 = .int .i64 i ∧ Aside0 (Hp gd w00 wr [(gd + 1, .cells (boardC (fun _ => z30) 0) 34 (0, 0)), (gd, .cells #[.int .u32 tk, .int .u32 hs, .slice A m c, .slice A2 m c2] 41 (0, 0))] [])) (fun v11 _ => m - (intOf v11).toNat)
  case atStart => exact ⟨0, by omega, rfl, ⟨H0.out⟩⟩
  case round =>
    clear H0
    obtain ⟨i, hi, rfl, H⟩ := hrel
    by_cases hlt : i < m
    · have d1 : decide (i < m) = true := decide_eq_true hlt
      have hi0 : (0 : Int) ≤ i := by omega
      have him : (i : Int) < m := by omega
      have hiP : i < P.length := by rw [HPC.out.1]; exact hlt
      have hi256 : (i : Int) < 256 := by have := HM.out; omega
      obtain ⟨adp, hA, p0⟩ := int_at (HF.out wr H.out.bel).1 i hiP
      rw [HPI.out i hiP] at p0
      subst hA
      have HJB : IntKind.i64.wrap (i : Int) = (i : Int) := IntWalk.i64_in _ (by omega)
      go_wp2_with fail
      go_roundw
      case rel => exact ⟨i + 1, by omega, by go_num, H⟩
      case measure => simp [intOf]; omega
    · obtain rfl : i = m := by omega
      have d1 : decide (i < i) = false := decide_eq_false (by omega)
      clear hlt hi
      have c2' := blk_cell (H.out.get (i := 1) rfl) 2
      have c3' := blk_cell (H.out.get (i := 1) rfl) 3
      go_wp2_with fail
      refine (new_any A2 i c2 C _ (HF.out wr H.out.bel).2 HC2.out HM.out).mono ?_
      rintro e w2 ⟨rfl, hb2⟩
      have H1 := Aside0.mk (H.out.call hb2)
      obtain ⟨F, hF⟩ : ∃ F, fL C = F := ⟨_, rfl⟩
      have HFF := Aside0.mk hF
      rw [hF] at KH
      rw [hF]
      clear hb2 H c2' c3' hF
      have HZ := Aside0.mk (blk_new w2 (.cells (boardC (fun _ => z30) 0) 34))
      have H2 := Aside0.mk ((H1.out.alloc (.cells (boardC (fun _ => z30) 0) 34)).setRow (i := 0) rfl (boardC F i))
      clear H1
      have c2' := blk_cell (H2.out.get (i := 2) rfl) 2
      have c3' := blk_cell (H2.out.get (i := 2) rfl) 3
      go_wp2_with (first | (refine wpList_store_row rfl 34 (.tmp 6) (.tmp 26) rfl (w2.heap.size) (boardC F i) rfl rfl 34 _ HZ.out (HI _ _).out (by rw [boardC_size, boardC_size]) (HO _ _).out ?_))
      clear HZ c2' c3'
      generalize (w2.alloc (.cells (boardC (fun _ => z30) 0) 34)).setRow w2.heap.size (boardC F i) = w3 at *
      generalize w2.heap.size = gn at *
      refine region_grown (W := w3)
        [fun (w : World) (v : Value) => v = .agg (boardC F i),
         fun (w : World) (v : Value) => v = .int .u32 hq,
         fun (w : World) (v : Value) => v = .pointer (some ⟨gd, 1, none⟩),
         fun (w : World) (v : Value) => v = .int .u32 hs,
         fun (w : World) (v : Value) => v = .bool (!β),
         fun (w : World) (v : Value) => v = .bool (!β)]
        (fun j =>  none)
        [(0, some 42), (1, some 43), (2, some 44), (3, some 45), (4, some 46), (5, some 41)]
        []
        (by kernel_rfl) (by kernel_rfl) (by kernel_rfl) (by kernel_rfl) ?r10_1g ?r10_1s ⟨?r10_1o0, ?r10_1o1, ?r10_1o2, ?r10_1o3, ?r10_1o4, ?r10_1o5, trivial⟩ ?r10_1e
      case r10_1g =>
        intro j hj; cases hj
      case r10_1s =>
        refine ⟨(fun w w' v hb h => h), (fun w w' v hb h => h), (fun w w' v hb h => h), (fun w w' v hb h => h), (fun w w' v hb h => h), (fun w w' v hb h => h), trivial⟩
      case r10_1o0 =>
        intro vs w hb hV
        rw [if_pos (by kernel_rfl)]
        generalize hρ : rho _ _ _ vs = ρ
        have e6 : ρ (.tmp 6) = .pointer (some ⟨gn, 0, none⟩) := by rw [← hρ]; kernel_rfl
        clear hρ hV
        exact runs_load 34 (.tmp 6) rfl gn e6 34 (boardC F i) (0, 0) _ (((hb.block gn (blk_lt (H2.out.get (i := 0) rfl))).trans (H2.out.get (i := 0) rfl))) Try.underlying34 rfl (HI _ _).out ⟨Below.refl _ _, rfl⟩
      case r10_1o1 =>
        intro vs w hb hV
        rw [if_pos (by kernel_rfl)]
        generalize hρ : rho _ _ _ vs = ρ
        have d42 : (vs 0) = .agg (boardC F i) := hV 0 (by kernel_rfl)
        have e42 : ρ (.tmp 42) = vs 0 := by rw [← hρ]; kernel_rfl
        rw [d42] at e42; clear d42
        have ef35 : ρ (.func 35) = .func (.func 35) #[] #[] := by rw [← hρ]; rfl
        clear hρ hV
        refine runs_call (f := 35) (args := #[.agg (boardC F i)]) (w' := w) ?_ ?_
        · go_simp
        · refine (KH _).out.mono ?_
          rintro e w5 ⟨rfl, hb5⟩
          exact ⟨_, rfl, hb5, rfl⟩
      case r10_1o2 =>
        intro vs w hb hV
        rw [if_pos (by kernel_rfl)]
        generalize hρ : rho _ _ _ vs = ρ
        have e1 : ρ (.tmp 1) = .pointer (some ⟨gd, 0, none⟩) := by rw [← hρ]; kernel_rfl
        clear hρ hV
        refine runs_val (v := .pointer (some ⟨gd, 1, none⟩)) (w' := w) ?_ ⟨Below.refl _ _, rfl⟩
        go_simp <;> (first | exact IntWalk.u64_in _ (by omega) | exact IntWalk.u32_in _ (by omega) | exact IntWalk.u16_in _ (by omega) | exact IntWalk.u8_in _ (by omega) | exact IntWalk.i64_in _ (by omega) | skip)
      case r10_1o3 =>
        intro vs w hb hV
        rw [if_pos (by kernel_rfl)]
        generalize hρ : rho _ _ _ vs = ρ
        have d44 : (vs 2) = .pointer (some ⟨gd, 1, none⟩) := hV 2 (by kernel_rfl)
        have e44 : ρ (.tmp 44) = vs 2 := by rw [← hρ]; kernel_rfl
        rw [d44] at e44; clear d44
        clear hρ hV
        have c0 := pw_cell_below hb (show w3.cell? ⟨gd, 1, none⟩ = some (.int .u32 hs) from blk_cell (H2.out.get (i := 2) rfl) 1)
        refine runs_val (v := .int .u32 hs) (w' := w) ?_ ⟨Below.refl _ _, rfl⟩
        go_simp
      case r10_1o4 =>
        intro vs w hb hV
        rw [if_pos (by kernel_rfl)]
        generalize hρ : rho _ _ _ vs = ρ
        have d43 : (vs 1) = .int .u32 hq := hV 1 (by kernel_rfl)
        have e43 : ρ (.tmp 43) = vs 1 := by rw [← hρ]; kernel_rfl
        rw [d43] at e43; clear d43
        have d45 : (vs 3) = .int .u32 hs := hV 3 (by kernel_rfl)
        have e45 : ρ (.tmp 45) = vs 3 := by rw [← hρ]; kernel_rfl
        rw [d45] at e45; clear d45
        clear hρ hV
        have hbq := HB.out
        refine runs_val (v := .bool (!β)) (w' := w) ?_ ⟨Below.refl _ _, rfl⟩
        go_simp
        unfold bne
        rw [hbq]
      case r10_1o5 =>
        intro vs w hb hV
        rw [if_pos (by kernel_rfl)]
        generalize hρ : rho _ _ _ vs = ρ
        have d46 : (vs 4) = .bool (!β) := hV 4 (by kernel_rfl)
        have e46 : ρ (.tmp 46) = vs 4 := by rw [← hρ]; kernel_rfl
        clear hρ hV
        refine runs_val (v := vs 4) (w' := w) ?_ ⟨Below.refl _ _, d46⟩
        go_simp
      case r10_1e =>
        intro vs w4 hb4 hV
        have d42 : (vs 0) = .agg (boardC F i) := hV 0 (Nat.le_of_ble_eq_true rfl)
        have d43 : (vs 1) = .int .u32 hq := hV 1 (Nat.le_of_ble_eq_true rfl)
        have d44 : (vs 2) = .pointer (some ⟨gd, 1, none⟩) := hV 2 (Nat.le_of_ble_eq_true rfl)
        have d45 : (vs 3) = .int .u32 hs := hV 3 (Nat.le_of_ble_eq_true rfl)
        have d46 : (vs 4) = .bool (!β) := hV 4 (Nat.le_of_ble_eq_true rfl)
        have d41 : (vs 5) = .bool (!β) := hV 5 (Nat.le_of_ble_eq_true rfl)
        clear hV
        simp only [putAll]
        rw [d42, d43, d44, d45, d46, d41]
        clear d42 d43 d44 d45 d46 d41
        clear vs
        simp only [Act.put, List.setIfInBounds_toArray, List.set_cons_zero, List.set_cons_succ]
        have H3 := Aside0.mk (H2.out.call hb4)
        clear hb4 H2
        cases β with
        | true =>
          go_wp2_with (first | (refine wpList_load_row_g 34 (.tmp 6) rfl gn rfl rfl 34 _ (0, 0) _ (H3.out.get (i := 0) rfl) Try.underlying34 rfl (HI _ _).out ?_) | (refine wpList_store_row rfl 34 (.tmp 2) (.tmp 48) rfl (gd + 1) (boardC F i) rfl rfl 34 _ (H3.out.get (i := 1) rfl) (HI _ _).out (by rw [boardC_size, boardC_size]) (HO _ _).out ?_))
          have H4 := Aside0.mk (H3.out.setRow (i := 1) rfl (boardC F i))
          refine bodyPost_ret (results_ct rfl _ _ (gd + 1) _ (boardC F i) (0, 0) _ rfl (H4.out.get (i := 1) rfl) Try.underlying34 rfl (HI _ _).out) rfl ?_
          rw [HGD.out]
          exact ⟨by rw [HFF.out]; rfl, H4.out.bel⟩
        | false =>
          go_wp2_with (first | (refine wpList_store_row rfl 34 (.tmp 2) (.tmp 47) rfl (gd + 1) (boardC (fun _ => z30) 0) rfl rfl 34 _ (H3.out.get (i := 1) rfl) (HI _ _).out rfl (HO _ _).out ?_))
          have H4 := Aside0.mk (H3.out.setRow (i := 1) rfl (boardC (fun _ => z30) 0))
          refine bodyPost_ret (results_ct rfl _ _ (gd + 1) _ (boardC (fun _ => z30) 0) (0, 0) _ rfl (H4.out.get (i := 1) rfl) Try.underlying34 rfl (HI _ _).out) rfl ?_
          rw [HGD.out]
          exact ⟨rfl, H4.out.bel⟩
end Go.Proofs.Ytkhlalpkkmjfnaa

namespace Go.Proofs.Ytkhlalpkkmjfnaa
open Go.RowKit Go.Proofs.YtkhlalpkkmjfnaaW.PrintWords Go.Proofs.YtkhlalpkkmjfnaaW.PrintLast Go.Proofs.YtkhlalpkkmjfnaaW.PrintMore
set_option linter.unusedVariables false
set_option linter.unusedSimpArgs false

theorem puts_touch (f h : Nat → S30) (K : List Nat) : ∀ i, i ≤ K.length → putsF f (K.map (fun i : Nat => (i : Int))) (K.map h) i = fun k => if k ∈ K.take i then h k else f k
  | 0, _ => by funext k; simp [putsF]
  | i + 1, hi => by
    have hik : i < K.length := by omega
    rw [putsF_succ f (i := i) (j := K[i]) (by rw [List.length_map]; omega) (by rw [List.length_map]; omega) (by simp), puts_touch f h K i (by omega)]
    funext k
    unfold putF
    rw [take_snoc hik]
    by_cases e : k = K[i]
    · subst e
      rw [if_pos rfl, if_pos (List.mem_append_right _ (List.mem_singleton.2 rfl))]
      simp
    · rw [if_neg e]
      show (if k ∈ K.take i then h k else f k) = _
      by_cases h2 : k ∈ K.take i
      · rw [if_pos h2, if_pos (List.mem_append_left _ h2)]
      · rw [if_neg h2, if_neg (fun h3 => (List.mem_append.1 h3).elim h2 (fun h4 => e (by simpa using h4)))]
/-- On the view ahead of it the view behind it. -/
theorem apply_of {f h : Nat → S30} {t n : Nat} (e : ∀ k, k < n → bitT t k = false → f k = h k) (eo : ∀ k, ¬ k < n → f k = h k) : putsF f (plL t n) (clL h t n) (plL t n).length = h := by
  unfold plL clL
  rw [List.length_map, puts_touch f h _ _ (Nat.le_refl _), List.take_length]
  funext k
  by_cases hk : k ∈ touchL t n
  · rw [if_pos hk]
  · rw [if_neg hk]
    by_cases hn : k < n
    · refine e k hn ?_
      cases hb : bitT t k with
      | false => rfl
      | true => exact absurd (List.mem_filter.2 ⟨List.mem_range.2 hn, hb⟩) hk
    · exact eo k hn
theorem plL_lt {t n : Nat} : ∀ x ∈ plL t n, (0 : Int) ≤ x ∧ x < n := fun x hx => by
  obtain ⟨k, hk, rfl⟩ := List.mem_map.1 hx
  have := touchL_mem hk
  omega
theorem plcl_len (f : Nat → S30) (t n : Nat) : (plL t n).length = (clL f t n).length := by unfold plL clL; rw [List.length_map, List.length_map]
theorem all_bit {k : Nat} (h : k < 48) : bitT allT k = true := by
  have : ∀ k : Fin 48, bitT allT k.1 = true := by decide
  exact this ⟨k, h⟩
theorem touch_all {n : Nat} (hn : n ≤ 48) : touchL allT n = List.range n := by
  unfold touchL
  rw [List.filter_eq_self]
  intro k hk
  have := List.mem_range.1 hk
  exact all_bit (by omega)
theorem plL_all {n : Nat} (hn : n ≤ 48) : (plL allT n).length = n ∧ ∀ (i : Nat) (h : i < (plL allT n).length), (plL allT n)[i] = (i : Int) := by
  unfold plL
  rw [touch_all hn]
  refine ⟨by simp, fun i h => by simp⟩
theorem clL_all (f : Nat → S30) {n : Nat} (hn : n ≤ 48) : clL f allT n = listF f n := by
  unfold clL listF
  rw [touch_all hn]
theorem clL_u32 {f : Nat → S30} {t n : Nat} (h : ∀ k, k < n → U32 (f k).f1) : ∀ x ∈ clL f t n, U32 x.f1 := fun x hx => by
  obtain ⟨k, hk, rfl⟩ := List.mem_map.1 hx
  exact h k (touchL_mem hk)
/-- What was told by Of, as a fact of a walk. -/
theorem Hp.ofR {B : Nat} {w0 W W1 : World} {L : List (Nat × Obj)} {F : List (World → Prop)} {tk hs : Int} {P : List Int} {C : List S30} {v : Value} (h : Hp B w0 W L F) (hb : Below W.heap.size W W1) (hr : OfR W.heap.size W1 tk hs P C v) : Hp B w0 W1 L ((fun X => OfR B X tk hs P C v) :: F) := by
  refine h.told hb (fun W' h0 hq => ?_)
  obtain ⟨A, c, A2, c2, e, h1, h2, h3, h4⟩ := hr
  refine ⟨A, c, A2, c2, e, h1, h2, ?_, ?_⟩
  · exact Kd.R_mono (Kd.R_lower (Kd.R_step (Kd.R_mono (Kd.R_bound h3) (fun k hk => (⟨hk.2.1, hk.2.2.1⟩ : W.heap.size ≤ k ∧ k < W1.heap.size))) (fun k hk hlt => hq k hk.1 hk.2)) h.le) (fun _ _ => trivial)
  · exact Kd.R_mono (Kd.R_lower (Kd.R_step (Kd.R_mono (Kd.R_bound h4) (fun k hk => (⟨hk.2.1, hk.2.2.1⟩ : W.heap.size ≤ k ∧ k < W1.heap.size))) (fun k hk hlt => hq k hk.1 hk.2)) h.le) (fun _ _ => trivial)
theorem OfR.turn {B : Nat} {X : World} {tk hs hs' : Int} {P : List Int} {C : List S30} {a b : Value} (h : OfR B X tk hs P C (.agg #[.int .u32 tk, .int .u32 hs, a, b])) : DvC X tk hs' P C (.agg #[.int .u32 tk, .int .u32 hs', a, b]) := by
  obtain ⟨A, c, A2, c2, e, h1, h2, h3, h4⟩ := h.cells
  simp only [Value.agg.injEq, Array.mk.injEq, List.cons.injEq, and_true, true_and] at e
  obtain ⟨rfl, rfl⟩ := e
  exact ⟨A, c, A2, c2, rfl, h1, h2, h3, h4⟩
theorem xor_u32 (a b : Nat) (ha : a < 4294967296) (hb : b < 4294967296) : bits .xor .u32 (a : Int) (b : Int) = ((a ^^^ b : Nat) : Int) := by
  show IntKind.u32.wrap ((BitVec.ofInt 32 (a : Int) ^^^ BitVec.ofInt 32 (b : Int)).toNat : Int) = _
  have e1 : BitVec.ofInt 32 (a : Int) = BitVec.ofNat 32 a := by simp
  have e2 : BitVec.ofInt 32 (b : Int) = BitVec.ofNat 32 b := by simp
  rw [e1, e2, BitVec.toNat_xor, BitVec.toNat_ofNat, BitVec.toNat_ofNat, Nat.mod_eq_of_lt (by omega), Nat.mod_eq_of_lt (by omega)]
  exact IntWalk.u32_in _ (by have := Nat.xor_lt_two_pow (n := 32) (show a < 2 ^ 32 by omega) (show b < 2 ^ 32 by omega); omega)
theorem xor_same {a b : Nat} : (((a : Nat) : Int) == ((a ^^^ b : Nat) : Int)) = decide (b = 0) := by
  by_cases h : b = 0
  · subst h; simp
  · rw [decide_eq_false h]
    have : a ≠ a ^^^ b := fun e => h (by
      have h2 : a ^^^ a = a ^^^ (a ^^^ b) := by rw [← e]
      rw [Nat.xor_self, ← Nat.xor_assoc, Nat.xor_self, Nat.zero_xor] at h2
      exact h2.symm)
    simp; omega
theorem R_fills {α : Type} {d : Kd α} {e b B : Nat} {w w' : World} {Zc : Array Value} {F : Obj} {v : Value} {xs : List α} {T : TypeId} (h : d.R e w b (fun _ => True) v xs) (hE : d.E = []) (hT : e ≠ T) (hf : Fills B (.cells Zc T (0, 0)) F w w') : d.R e w' b (fun _ => True) v xs := by
  refine Kd.R_mono (Kd.R_step (Kd.R_bound h) (fun k hk hlt => ?_)) (fun _ _ => trivial)
  rcases hf.2 k hlt with h1 | ⟨_, h1, _⟩
  · exact h1
  · obtain ⟨_, _, _, q, hq, cells, h2⟩ := hk
    rw [hE] at hq
    obtain rfl := List.mem_singleton.1 hq
    rw [h1] at h2
    simp only [Option.some.injEq, Obj.cells.injEq] at h2
    exact absurd h2.2.1.symm hT
theorem OfR.fills {b B : Nat} {w w' : World} {tk hs : Int} {P : List Int} {C : List S30} {v : Value} {Zc : Array Value} {F : Obj} (h : OfR b w tk hs P C v) (hf : Fills B (.cells Zc 34 (0, 0)) F w w') : OfR b w' tk hs P C v := by
  obtain ⟨A, c, A2, c2, e, h1, h2, h3, h4⟩ := h
  exact ⟨A, c, A2, c2, e, h1, h2, R_fills h3 rfl (by decide) hf, R_fills h4 rfl (by decide) hf⟩
theorem OfR.lower {b b' : Nat} {w : World} {tk hs : Int} {P : List Int} {C : List S30} {v : Value} (h : OfR b w tk hs P C v) (hb : b' ≤ b) : OfR b' w tk hs P C v := by
  obtain ⟨A, c, A2, c2, e, h1, h2, h3, h4⟩ := h
  exact ⟨A, c, A2, c2, e, h1, h2, Kd.R_lower h3 hb, Kd.R_lower h4 hb⟩
theorem bits_u32 (op : BinOp) (a b : Int) : U32 (bits op .u32 a b) := by
  have : ∀ x : Int, U32 (IntKind.u32.wrap x) := fun x => by unfold U32; rw [IntKind.wrap_u32]; omega
  unfold bits
  exact this _
end Go.Proofs.Ytkhlalpkkmjfnaa

namespace Go.Proofs.Ytkhlalpkkmjfnaa
open Go.RowKit Go.Proofs.YtkhlalpkkmjfnaaW.PrintWords Go.Proofs.YtkhlalpkkmjfnaaW.PrintLast Go.Proofs.YtkhlalpkkmjfnaaW.PrintMore
set_option linter.unusedVariables false
set_option linter.unusedSimpArgs false

theorem rounds_int {f : Nat → Option Int} (hm : ∀ k, LeO (f k) (f (k + 1))) {k : Nat} {r : Int} (h : f k = some r) : ∀ n, f (k + n) = some r
  | 0 => h
  | n + 1 => hm (k + n) r (rounds_int hm h n)
theorem refsum_at (l : List Int) (hb : Bytes l) (hl : l.length ≤ 1000) (k : Nat) (hk : 10 * l.length + 1 ≤ k) : hoodwinkref02_Sum.f k l = some (sumN tab l : Nat) := by
  have h := rounds_int (f := fun k => hoodwinkref02_Sum.f k l) (fun k => hoodwinkref02_Sum.mono l k) (refsum_f l hb (by omega)) (k - (10 * l.length + 1))
  rw [show 10 * l.length + 1 + (k - (10 * l.length + 1)) = k by omega] at h
  exact h
theorem cell_hash (x : S30) (h : OkC x) (k : Nat) (hk : 10 ≤ k) : hoodwinkref06_Bytes.f k x.f0 x.f1 = some (cellB true x) := by
  have h1 := h.u32
  unfold U32 at h1
  have e := bytes_f (k - 10) x.f0 x.f1 (x.f0 % 4294967296).toNat x.f1.toNat (by omega) (by
    have : IntKind.u64.wrap x.f1 = x.f1 := IntWalk.u64_in _ (by omega)
    rw [this]; omega) (by omega) (by omega)
  rw [show k - 10 + 10 = k by omega] at e
  rw [e]
  unfold cellN cellB
  rw [if_pos rfl]
theorem cell_label (x : S30) (h : OkC x) (k : Nat) (hk : 10 ≤ k) : hoodwinkref01_Low.f k (IntKind.u64.wrap x.f1) 4 = some (cellB false x) := by
  have h1 := h.u32
  unfold U32 at h1
  have e : IntKind.u64.wrap x.f1 = ((x.f1.toNat : Nat) : Int) := by rw [IntWalk.u64_in _ (by omega)]; omega
  have := low_l0 4 (by omega) 4 k 0 x.f1.toNat [] (by omega) (by omega) (by omega) rfl
  rw [e]
  unfold cellB
  rw [if_neg (by decide), List.nil_append]
  simpa [hoodwinkref01_Low.f] using this
theorem bytesB_drop (b : Bool) {L : List S30} {j : Nat} (h : j < L.length) : bytesB b (L.drop j) = cellB b L[j] ++ bytesB b (L.drop (j + 1)) := by
  rw [List.drop_eq_getElem_cons h]; rfl
theorem rd_toR {L : List S30} {j : Nat} (h : j < L.length) : rd_T89 (L.map toR) (j : Int) = toR L[j] := by rw [rdT52_get (by simpa using h)]; simp
theorem refhash_l0 (L : List S30) (hL : L.length ≤ 48) (hO : ∀ x ∈ L, OkC x) : ∀ (d k j : Nat) (acc : List Int), L.length - j = d → d + 6000 < k → j ≤ L.length → Bytes acc → acc.length ≤ 8 * j →
    hoodwinkref06_Hash.l0 k acc (L.map toR) (L.length : Int) (j : Int) = some (sumN tab (acc ++ bytesB true (L.drop j)) : Nat)
  | 0, k, j, acc, hd, hk, hj, hb, ha => by
    obtain ⟨k, rfl⟩ : ∃ m, k = m + 1 := ⟨k - 1, by omega⟩
    simp only [hoodwinkref06_Hash.l0]
    rw [if_neg (by omega), List.drop_of_length_le (by omega), refsum_at acc hb (by omega) k (by omega)]
    simp [bytesB]
  | d + 1, k, j, acc, hd, hk, hj, hb, ha => by
    obtain ⟨k, rfl⟩ : ∃ m, k = m + 1 := ⟨k - 1, by omega⟩
    have hlt : j < L.length := by omega
    have hc := cellB_len true L[j]
    simp only [hoodwinkref06_Hash.l0]
    rw [if_pos (by omega), if_pos (by omega), if_pos (by simp; omega), rd_toR hlt]
    show ((hoodwinkref06_Bytes.f k L[j].f0 L[j].f1).bind fun t162 => _) = _
    rw [cell_hash _ (hO _ (List.getElem_mem hlt)) k (by omega)]
    show (if acc.length + (cellB true L[j]).length < 140737488355328 then _ else none) = _
    rw [if_pos (by omega), wrap_succ (by omega), refhash_l0 L hL hO d k (j + 1) _ (by omega) (by omega) (by omega) (Bytes.append hb (cellB_bytes _ _)) (by rw [List.length_append]; omega), bytesB_drop true hlt, List.append_assoc]
theorem refhash_any (A : Option Addr) (n c : Nat) (L : List S30) (w : World) (hr : k89.C w A n (L.map toR)) (hc : n ≤ c) (hn : n ≤ 48) (hO : ∀ x ∈ L, OkC x) :
    Calls Try.prog 44 #[.slice A n c] w fun e w' => e = .returned (.int .u32 (sumB true L)) ∧ Below w.heap.size w w' := by
  obtain rfl := hr.1
  have hl : (L.map toR).length = L.length := List.length_map ..
  refine hoodwinkref06_Hash.calls 7000 A c (L.map toR) _ w hr hc ?_
  have := refhash_l0 L (by omega) hO L.length 7000 0 [] (by omega) (by omega) (by omega) Bytes.nil (by simp)
  unfold hoodwinkref06_Hash.f
  rw [hl]
  simpa [sumB] using this
theorem sees_any (x : S30) (o : Int) (h : U32 x.f1) (w : World) : Calls Try.prog 58 #[.agg #[.int .i32 x.f0, .int .u32 x.f1], .int .i64 o] w fun e w' => e = .returned (.bool (hasB x.f1 o)) ∧ Below w.heap.size w w' :=
  hoodwinkref06_Sees.calls x.f0 x.f1 o _ w (sees_f x.f0 x.f1 o h)
end Go.Proofs.Ytkhlalpkkmjfnaa

namespace Go.Proofs.Ytkhlalpkkmjfnaa
open Go.RowKit Go.Proofs.YtkhlalpkkmjfnaaW.PrintWords Go.Proofs.YtkhlalpkkmjfnaaW.PrintLast Go.Proofs.YtkhlalpkkmjfnaaW.PrintMore
set_option linter.unusedVariables false
set_option linter.unusedSimpArgs false

theorem cells7_l0 (L : List S30) (hL : L.length ≤ 1000000) : ∀ (d k j : Nat) (acc : List S89), L.length - j = d → d < k → j ≤ L.length → acc.length ≤ j → hoodwinklaw07_cells.l0 k acc L (L.length : Int) (j : Int) = some (acc ++ (L.drop j).map toR)
  | 0, k, j, acc, hd, hk, hj, ha => by
    obtain ⟨k, rfl⟩ : ∃ m, k = m + 1 := ⟨k - 1, by omega⟩
    simp only [hoodwinklaw07_cells.l0]
    rw [if_neg (by omega), List.drop_of_length_le (by omega)]; simp
  | d + 1, k, j, acc, hd, hk, hj, ha => by
    obtain ⟨k, rfl⟩ : ∃ m, k = m + 1 := ⟨k - 1, by omega⟩
    have hlt : j < L.length := by omega
    simp only [hoodwinklaw07_cells.l0]
    rw [if_pos (by omega), if_pos (by omega), if_pos (by omega), if_pos (by omega), wrap_succ (by omega), cells7_l0 L hL d k (j + 1) _ (by omega) (by omega) (by omega) (by simp; omega), List.drop_eq_getElem_cons hlt, rdT25_get hlt, List.append_assoc]
    rfl
theorem cells7_any (A : Option Addr) (n c : Nat) (L : List S30) (w : World) (hr : k30.C w A n L) (hc : n ≤ c) (hn : n ≤ 1000000) :
    Calls Try.prog 24 #[.slice A n c] w fun e w' => ∃ v, e = .returned v ∧ k89.R 89 w' w.heap.size (fun _ => True) v (L.map toR) ∧ Below w.heap.size w w' := by
  obtain rfl := hr.1
  exact hoodwinklaw07_cells.calls (L.length + 1) A c L _ w hr hc (by
    have := cells7_l0 L hn L.length (L.length + 1) 0 [] (by omega) (by omega) (by omega) (Nat.le_refl _)
    simpa [hoodwinklaw07_cells.f] using this)
/-- A delta as the document has it. -/
def DrC (w : World) (tk hs : Int) (P : List Int) (R : List S89) (v : Value) : Prop :=
  ∃ A c A2 c2, v = .agg #[.int .u32 tk, .int .u32 hs, .slice A P.length c, .slice A2 R.length c2] ∧ P.length ≤ c ∧ R.length ≤ c2 ∧ (Kd.int .u8).C w A P.length P ∧ k89.C w A2 R.length R
theorem DrC.below {w w' : World} {tk hs : Int} {P : List Int} {R : List S89} {v : Value} (h : DrC w tk hs P R v) (hb : Below w.heap.size w w') : DrC w' tk hs P R v := by
  obtain ⟨A, c, A2, c2, h1, h2, h3, h4, h5⟩ := h
  exact ⟨A, c, A2, c2, h1, h2, h3, Kd.C_below h4 hb, Kd.C_below h5 hb⟩
theorem rdelta_info (a b c d : Value) : (Try.prog.info? 58).map (·.size) = some (#[a, b, c, d] : Array Value).size := by kernel_rfl

set_option maxRecDepth 100000 in
set_option maxHeartbeats 8000000 in
theorem own7_any (tk hs : Int) (P : List Int) (C : List S30) (v : Value) (w00 : World) (hv : DvC w00 tk hs P C v) (hn : C.length ≤ 1000000) :
    Calls Try.prog 22 #[v] w00 fun e w' => ∃ v', e = .returned v' ∧ DrC w' tk hs P (C.map toR) v' ∧ Below w00.heap.size w00 w' := by
  obtain ⟨A, c, A2, c2, rfl, h2, h3, h4, h5⟩ := hv
  have HC := Aside0.mk (And.intro h2 (And.intro h3 hn))
  have HF : Aside0 (∀ z, Below w00.heap.size w00 z → (Kd.int .u8).C z A P.length P ∧ k30.C z A2 C.length C) := ⟨fun z hb => ⟨Kd.C_below h4 hb, Kd.C_below h5 hb⟩⟩
  have H0 := Aside0.mk (((Hp.start w00).alloc (.cells #[.int .u32 tk, .int .u32 hs, .slice A P.length c, .slice A2 C.length c2] 41)).allocAt (.cells #[.int .u32 0, .int .u32 0, .slice none 0 0, .slice none 0 0] 58) (w00.heap.size + 1) (by simp))
  clear h2 h3 h4 h5 hn
  obtain ⟨m, hm⟩ : ∃ m, C.length = m := ⟨_, rfl⟩
  obtain ⟨n, hn⟩ : ∃ n, P.length = n := ⟨_, rfl⟩
  rw [hm, hn] at HC HF H0
  rw [hm, hn]
  have HMN := Aside0.mk (And.intro hm hn)
  clear hm hn
  go_enter Try.func22, Try.ntmps22
  go_wp2_with fail
  generalize (w00.alloc (.cells #[.int .u32 tk, .int .u32 hs, .slice A n c, .slice A2 m c2] 41)).alloc (.cells #[.int .u32 0, .int .u32 0, .slice none 0 0, .slice none 0 0] 58) = W at *
  obtain ⟨gd, hgd⟩ : ∃ gd, w00.heap.size = gd := ⟨_, rfl⟩
  rw [hgd] at H0 HF
  rw [hgd]
  have HGD := Aside0.mk hgd
  clear hgd
  refine regionS (W := W)
    [fun _ v => v = .pointer (some ⟨gd, 0, none⟩),
     fun _ v => v = .int .u32 tk,
     fun _ v => v = .pointer (some ⟨gd, 1, none⟩),
     fun _ v => v = .int .u32 hs,
     fun _ v => v = .pointer (some ⟨gd, 2, none⟩),
     fun _ v => v = .slice A n c,
     fun _ v => v = .pointer (some ⟨gd, 3, none⟩),
     fun _ v => v = .slice A2 m c2,
     fun _ _ => True,
     fun _ _ => True,
     fun _ _ => True]
    [8, 9, 10]
    (fun t => match t with | 0 => fun (rs : List Value) (w : World) => Hp gd w00 w [(gd + 1, .cells #[.int .u32 0, .int .u32 0, .slice none 0 0, .slice none 0 0] 58 (0, 0)), (gd, .cells #[.int .u32 tk, .int .u32 hs, .slice A n c, .slice A2 m c2] 41 (0, 0))] [] | 1 => fun (rs : List Value) (w : World) => Hp gd w00 w [(gd + 1, .cells #[.int .u32 0, .int .u32 0, .slice none 0 0, .slice none 0 0] 58 (0, 0)), (gd, .cells #[.int .u32 tk, .int .u32 hs, .slice A n c, .slice A2 m c2] 41 (0, 0))] [fun X => k89.R 89 X gd (fun _ => True) (rs.getD 0 undef) (C.map toR)] | 2 => fun (rs : List Value) (w : World) => ∃ A3 c3, (rs.getD 1 undef) = .agg #[.int .u32 tk, .int .u32 hs, .slice A n c, .slice A3 m c3] ∧ Hp gd w00 w [(gd + 1, .cells #[.int .u32 0, .int .u32 0, .slice none 0 0, .slice none 0 0] 58 (0, 0)), (gd, .cells #[.int .u32 tk, .int .u32 hs, .slice A n c, .slice A2 m c2] 41 (0, 0))] [fun X => k89.R 89 X gd (fun _ => True) (.slice A3 m c3) (C.map toR)] | 3 => fun (rs : List Value) (w : World) => ∃ A3 c3, Hp gd w00 w [(gd + 1, .cells #[.int .u32 tk, .int .u32 hs, .slice A n c, .slice A3 m c3] 58 (0, 0)), (gd, .cells #[.int .u32 tk, .int .u32 hs, .slice A n c, .slice A2 m c2] 41 (0, 0))] [fun X => k89.R 89 X gd (fun _ => True) (.slice A3 m c3) (C.map toR)] | _ => fun _ _ => False)
    (fun _ _ _ => True) (fun w => Below gd w00 w ∧ gd ≤ w.heap.size ∧ w.heap[gd]? = some (.cells #[.int .u32 tk, .int .u32 hs, .slice A n c, .slice A2 m c2] 41 (0, 0)))
    (fun j =>  none)
    [(0, some 3), (1, some 4), (2, some 5), (3, some 6), (4, some 7), (5, some 8), (6, some 9), (7, some 10), (8, some 11), (9, some 12), (10, none)]
    []
    (by kernel_rfl) (by kernel_rfl) (by kernel_rfl) (by kernel_rfl) (by kernel_rfl) ?z1_1c ?z1_1i ?z1_1b ?z1_1d ?z1_1g ⟨?z1_1t0, ?z1_1t1, ?z1_1t2, ?z1_1t3, ?z1_1t4, ?z1_1t5, ?z1_1t6, ?z1_1t7, ?z1_1t8, ?z1_1t9, ?z1_1t10, trivial⟩ ⟨?z1_1o0, ?z1_1o1, ?z1_1o2, ?z1_1o3, ?z1_1o4, ?z1_1o5, ?z1_1o6, ?z1_1o7, ?z1_1o8, ?z1_1o9, ?z1_1o10, trivial⟩ ?z1_1e
  case z1_1c => exact ⟨H0.out.drew.bel, H0.out.drew.le, H0.out.drew.get (i := 1) rfl⟩
  case z1_1i => exact H0.out.drew
  case z1_1b => intro w w' hb h; exact ⟨h.1.trans (hb.mono h.2.1), Nat.le_trans h.2.1 hb.size, blk_below h.2.2 hb⟩
  case z1_1d =>
    intro t rs w w' hb h
    match t, h with
    | 0, h => (replace h : Hp gd w00 w [(gd + 1, .cells #[.int .u32 0, .int .u32 0, .slice none 0 0, .slice none 0 0] 58 (0, 0)), (gd, .cells #[.int .u32 tk, .int .u32 hs, .slice A n c, .slice A2 m c2] 41 (0, 0))] [] := h); show Hp gd w00 w' [(gd + 1, .cells #[.int .u32 0, .int .u32 0, .slice none 0 0, .slice none 0 0] 58 (0, 0)), (gd, .cells #[.int .u32 tk, .int .u32 hs, .slice A n c, .slice A2 m c2] 41 (0, 0))] []; first | exact h.call hb | (obtain ⟨A3, c3, h1, h⟩ := h; exact ⟨A3, c3, h1, h.call hb⟩) | (obtain ⟨A3, c3, h⟩ := h; exact ⟨A3, c3, h.call hb⟩)
    | 1, h => (replace h : Hp gd w00 w [(gd + 1, .cells #[.int .u32 0, .int .u32 0, .slice none 0 0, .slice none 0 0] 58 (0, 0)), (gd, .cells #[.int .u32 tk, .int .u32 hs, .slice A n c, .slice A2 m c2] 41 (0, 0))] [fun X => k89.R 89 X gd (fun _ => True) (rs.getD 0 undef) (C.map toR)] := h); show Hp gd w00 w' [(gd + 1, .cells #[.int .u32 0, .int .u32 0, .slice none 0 0, .slice none 0 0] 58 (0, 0)), (gd, .cells #[.int .u32 tk, .int .u32 hs, .slice A n c, .slice A2 m c2] 41 (0, 0))] [fun X => k89.R 89 X gd (fun _ => True) (rs.getD 0 undef) (C.map toR)]; first | exact h.call hb | (obtain ⟨A3, c3, h1, h⟩ := h; exact ⟨A3, c3, h1, h.call hb⟩) | (obtain ⟨A3, c3, h⟩ := h; exact ⟨A3, c3, h.call hb⟩)
    | 2, h => (replace h : ∃ A3 c3, (rs.getD 1 undef) = .agg #[.int .u32 tk, .int .u32 hs, .slice A n c, .slice A3 m c3] ∧ Hp gd w00 w [(gd + 1, .cells #[.int .u32 0, .int .u32 0, .slice none 0 0, .slice none 0 0] 58 (0, 0)), (gd, .cells #[.int .u32 tk, .int .u32 hs, .slice A n c, .slice A2 m c2] 41 (0, 0))] [fun X => k89.R 89 X gd (fun _ => True) (.slice A3 m c3) (C.map toR)] := h); show ∃ A3 c3, (rs.getD 1 undef) = .agg #[.int .u32 tk, .int .u32 hs, .slice A n c, .slice A3 m c3] ∧ Hp gd w00 w' [(gd + 1, .cells #[.int .u32 0, .int .u32 0, .slice none 0 0, .slice none 0 0] 58 (0, 0)), (gd, .cells #[.int .u32 tk, .int .u32 hs, .slice A n c, .slice A2 m c2] 41 (0, 0))] [fun X => k89.R 89 X gd (fun _ => True) (.slice A3 m c3) (C.map toR)]; first | exact h.call hb | (obtain ⟨A3, c3, h1, h⟩ := h; exact ⟨A3, c3, h1, h.call hb⟩) | (obtain ⟨A3, c3, h⟩ := h; exact ⟨A3, c3, h.call hb⟩)
    | 3, h => (replace h : ∃ A3 c3, Hp gd w00 w [(gd + 1, .cells #[.int .u32 tk, .int .u32 hs, .slice A n c, .slice A3 m c3] 58 (0, 0)), (gd, .cells #[.int .u32 tk, .int .u32 hs, .slice A n c, .slice A2 m c2] 41 (0, 0))] [fun X => k89.R 89 X gd (fun _ => True) (.slice A3 m c3) (C.map toR)] := h); show ∃ A3 c3, Hp gd w00 w' [(gd + 1, .cells #[.int .u32 tk, .int .u32 hs, .slice A n c, .slice A3 m c3] 58 (0, 0)), (gd, .cells #[.int .u32 tk, .int .u32 hs, .slice A n c, .slice A2 m c2] 41 (0, 0))] [fun X => k89.R 89 X gd (fun _ => True) (.slice A3 m c3) (C.map toR)]; first | exact h.call hb | (obtain ⟨A3, c3, h1, h⟩ := h; exact ⟨A3, c3, h1, h.call hb⟩) | (obtain ⟨A3, c3, h⟩ := h; exact ⟨A3, c3, h.call hb⟩)
    | _ + 4, h => exact h.elim
  case z1_1g =>
    intro j hj; cases hj
  case z1_1t0 => exact StabS.const _ _ _ _
  case z1_1t1 => exact StabS.const _ _ _ _
  case z1_1t2 => exact StabS.const _ _ _ _
  case z1_1t3 => exact StabS.const _ _ _ _
  case z1_1t4 => exact StabS.const _ _ _ _
  case z1_1t5 => exact StabS.const _ _ _ _
  case z1_1t6 => exact StabS.const _ _ _ _
  case z1_1t7 => exact StabS.const _ _ _ _
  case z1_1t8 => exact StabS.const _ _ _ _
  case z1_1t9 => exact StabS.const _ _ _ _
  case z1_1t10 => exact StabS.const _ _ _ _
  case z1_1o0 =>
    intro vs w t hC ht1 ht2 hS hV
    rw [if_pos (by kernel_rfl)]
    generalize hρ : rho _ _ _ vs = ρ
    have e1 : ρ (.tmp 1) = .pointer (some ⟨gd, 0, none⟩) := by rw [← hρ]; kernel_rfl
    clear hρ hV
    refine runs_val (v := .pointer (some ⟨gd, 0, none⟩)) (w' := w) ?_ ⟨Below.refl _ _, rfl⟩
    clear ht1 ht2 hS hC
    go_simp <;> (first | exact IntWalk.u64_in _ (by omega) | exact IntWalk.u32_in _ (by omega) | exact IntWalk.u16_in _ (by omega) | exact IntWalk.u8_in _ (by omega) | exact IntWalk.i64_in _ (by omega) | skip)
  case z1_1o1 =>
    intro vs w t hC ht1 ht2 hS hV
    rw [if_pos (by kernel_rfl)]
    generalize hρ : rho _ _ _ vs = ρ
    have d3 : (vs 0) = .pointer (some ⟨gd, 0, none⟩) := hV 0 (by kernel_rfl)
    have e3 : ρ (.tmp 3) = vs 0 := by rw [← hρ]; kernel_rfl
    rw [d3] at e3; clear d3
    clear hρ hV
    have c0 := blk_cell hC.2.2 0
    refine runs_val (v := .int .u32 tk) (w' := w) ?_ ⟨Below.refl _ _, rfl⟩
    clear ht1 ht2 hS hC
    go_simp
  case z1_1o2 =>
    intro vs w t hC ht1 ht2 hS hV
    rw [if_pos (by kernel_rfl)]
    generalize hρ : rho _ _ _ vs = ρ
    have e1 : ρ (.tmp 1) = .pointer (some ⟨gd, 0, none⟩) := by rw [← hρ]; kernel_rfl
    clear hρ hV
    refine runs_val (v := .pointer (some ⟨gd, 1, none⟩)) (w' := w) ?_ ⟨Below.refl _ _, rfl⟩
    clear ht1 ht2 hS hC
    go_simp <;> (first | exact IntWalk.u64_in _ (by omega) | exact IntWalk.u32_in _ (by omega) | exact IntWalk.u16_in _ (by omega) | exact IntWalk.u8_in _ (by omega) | exact IntWalk.i64_in _ (by omega) | skip)
  case z1_1o3 =>
    intro vs w t hC ht1 ht2 hS hV
    rw [if_pos (by kernel_rfl)]
    generalize hρ : rho _ _ _ vs = ρ
    have d5 : (vs 2) = .pointer (some ⟨gd, 1, none⟩) := hV 2 (by kernel_rfl)
    have e5 : ρ (.tmp 5) = vs 2 := by rw [← hρ]; kernel_rfl
    rw [d5] at e5; clear d5
    clear hρ hV
    have c0 := blk_cell hC.2.2 1
    refine runs_val (v := .int .u32 hs) (w' := w) ?_ ⟨Below.refl _ _, rfl⟩
    clear ht1 ht2 hS hC
    go_simp
  case z1_1o4 =>
    intro vs w t hC ht1 ht2 hS hV
    rw [if_pos (by kernel_rfl)]
    generalize hρ : rho _ _ _ vs = ρ
    have e1 : ρ (.tmp 1) = .pointer (some ⟨gd, 0, none⟩) := by rw [← hρ]; kernel_rfl
    clear hρ hV
    refine runs_val (v := .pointer (some ⟨gd, 2, none⟩)) (w' := w) ?_ ⟨Below.refl _ _, rfl⟩
    clear ht1 ht2 hS hC
    go_simp <;> (first | exact IntWalk.u64_in _ (by omega) | exact IntWalk.u32_in _ (by omega) | exact IntWalk.u16_in _ (by omega) | exact IntWalk.u8_in _ (by omega) | exact IntWalk.i64_in _ (by omega) | skip)
  case z1_1o5 =>
    intro vs w t hC ht1 ht2 hS hV
    rw [if_pos (by kernel_rfl)]
    generalize hρ : rho _ _ _ vs = ρ
    have d7 : (vs 4) = .pointer (some ⟨gd, 2, none⟩) := hV 4 (by kernel_rfl)
    have e7 : ρ (.tmp 7) = vs 4 := by rw [← hρ]; kernel_rfl
    rw [d7] at e7; clear d7
    clear hρ hV
    have c0 := blk_cell hC.2.2 2
    refine runs_val (v := .slice A n c) (w' := w) ?_ ⟨Below.refl _ _, rfl⟩
    clear ht1 ht2 hS hC
    go_simp
  case z1_1o6 =>
    intro vs w t hC ht1 ht2 hS hV
    rw [if_pos (by kernel_rfl)]
    generalize hρ : rho _ _ _ vs = ρ
    have e1 : ρ (.tmp 1) = .pointer (some ⟨gd, 0, none⟩) := by rw [← hρ]; kernel_rfl
    clear hρ hV
    refine runs_val (v := .pointer (some ⟨gd, 3, none⟩)) (w' := w) ?_ ⟨Below.refl _ _, rfl⟩
    clear ht1 ht2 hS hC
    go_simp <;> (first | exact IntWalk.u64_in _ (by omega) | exact IntWalk.u32_in _ (by omega) | exact IntWalk.u16_in _ (by omega) | exact IntWalk.u8_in _ (by omega) | exact IntWalk.i64_in _ (by omega) | skip)
  case z1_1o7 =>
    intro vs w t hC ht1 ht2 hS hV
    rw [if_pos (by kernel_rfl)]
    generalize hρ : rho _ _ _ vs = ρ
    have d9 : (vs 6) = .pointer (some ⟨gd, 3, none⟩) := hV 6 (by kernel_rfl)
    have e9 : ρ (.tmp 9) = vs 6 := by rw [← hρ]; kernel_rfl
    rw [d9] at e9; clear d9
    clear hρ hV
    have c0 := blk_cell hC.2.2 3
    refine runs_val (v := .slice A2 m c2) (w' := w) ?_ ⟨Below.refl _ _, rfl⟩
    clear ht1 ht2 hS hC
    go_simp
  case z1_1o8 =>
    intro vs w hC hS hV
    replace hS : Hp gd w00 w [(gd + 1, .cells #[.int .u32 0, .int .u32 0, .slice none 0 0, .slice none 0 0] 58 (0, 0)), (gd, .cells #[.int .u32 tk, .int .u32 hs, .slice A n c, .slice A2 m c2] 41 (0, 0))] [] := hS
    rw [if_pos (by kernel_rfl)]
    generalize hρ : rho _ _ _ vs = ρ
    have d10 : (vs 7) = .slice A2 m c2 := hV 7 (by kernel_rfl)
    have e10 : ρ (.tmp 10) = vs 7 := by rw [← hρ]; kernel_rfl
    rw [d10] at e10; clear d10
    have ef24 : ρ (.func 24) = .func (.func 24) #[] #[] := by rw [← hρ]; rfl
    clear hρ hV
    refine runs_call (f := 24) (args := #[.slice A2 m c2]) (w' := w) ?_ ?_
    · go_simp
    · refine (cells7_any A2 m c2 C w (HF.out w hC.1).2 HC.out.2.1 HC.out.2.2).mono ?_
      rintro e w5 ⟨v, rfl, hv, hb5⟩
      exact ⟨_, rfl, ⟨hC.1.trans (hb5.mono hC.2.1), Nat.le_trans hC.2.1 hb5.size, blk_below hC.2.2 hb5⟩, trivial, trivial, hS.row hb5 hv⟩
  case z1_1o9 =>
    intro vs w hC hS hV
    replace hS : Hp gd w00 w [(gd + 1, .cells #[.int .u32 0, .int .u32 0, .slice none 0 0, .slice none 0 0] 58 (0, 0)), (gd, .cells #[.int .u32 tk, .int .u32 hs, .slice A n c, .slice A2 m c2] 41 (0, 0))] [fun X => k89.R 89 X gd (fun _ => True) (vs 8) (C.map toR)] := hS
    rw [if_pos (by kernel_rfl)]
    generalize hρ : rho _ _ _ vs = ρ
    have d4 : (vs 1) = .int .u32 tk := hV 1 (by kernel_rfl)
    have e4 : ρ (.tmp 4) = vs 1 := by rw [← hρ]; kernel_rfl
    rw [d4] at e4; clear d4
    have d6 : (vs 3) = .int .u32 hs := hV 3 (by kernel_rfl)
    have e6 : ρ (.tmp 6) = vs 3 := by rw [← hρ]; kernel_rfl
    rw [d6] at e6; clear d6
    have d8 : (vs 5) = .slice A n c := hV 5 (by kernel_rfl)
    have e8 : ρ (.tmp 8) = vs 5 := by rw [← hρ]; kernel_rfl
    rw [d8] at e8; clear d8
    have d11 : (fun (w : World) (v : Value) => True) w (vs 8) := hV 8 (by kernel_rfl)
    have e11 : ρ (.tmp 11) = vs 8 := by rw [← hρ]; kernel_rfl
    clear hρ hV
    obtain ⟨A3, c3, e3⟩ := Kd.R_slice (hS.fact (i := 0) rfl)
    rw [List.length_map, HMN.out.1] at e3
    rw [e3] at hS e11
    refine runs_val (v := .agg #[.int .u32 tk, .int .u32 hs, .slice A n c, .slice A3 m c3]) (w' := w) ?_ ⟨hC, trivial, trivial, ⟨A3, c3, rfl, hS⟩⟩
    clear hS hC
    go_simp
  case z1_1o10 =>
    intro vs w hC hS hV
    replace hS : ∃ A3 c3, (vs 9) = .agg #[.int .u32 tk, .int .u32 hs, .slice A n c, .slice A3 m c3] ∧ Hp gd w00 w [(gd + 1, .cells #[.int .u32 0, .int .u32 0, .slice none 0 0, .slice none 0 0] 58 (0, 0)), (gd, .cells #[.int .u32 tk, .int .u32 hs, .slice A n c, .slice A2 m c2] 41 (0, 0))] [fun X => k89.R 89 X gd (fun _ => True) (.slice A3 m c3) (C.map toR)] := hS
    rw [if_pos (by kernel_rfl)]
    generalize hρ : rho _ _ _ vs = ρ
    have e2 : ρ (.tmp 2) = .pointer (some ⟨gd + 1, 0, none⟩) := by rw [← hρ]; kernel_rfl
    have d12 : (fun (w : World) (v : Value) => True) w (vs 9) := hV 9 (by kernel_rfl)
    have e12 : ρ (.tmp 12) = vs 9 := by rw [← hρ]; kernel_rfl
    clear hρ hV
    obtain ⟨A3, c3, e3, hS⟩ := hS
    rw [e3] at e12
    have hS2 := hS.setRow (i := 0) rfl #[.int .u32 tk, .int .u32 hs, .slice A n c, .slice A3 m c3]
    exact runs_store_row 58 (.tmp 2) (.tmp 12) rfl (gd + 1) #[.int .u32 tk, .int .u32 hs, .slice A n c, .slice A3 m c3] e2 e12 58 _ (hS.get (i := 0) rfl) (rdelta_info _ _ _ _) rfl (by simp [Value.oneCell']) ⟨⟨hS2.bel, hS2.le, hS2.get (i := 1) rfl⟩, trivial, trivial, ⟨A3, c3, hS2⟩⟩
  case z1_1e =>
    intro vs W2 hC hS hV
    replace hS : (fun (w : World) => ∃ A3 c3, Hp gd w00 w [(gd + 1, .cells #[.int .u32 tk, .int .u32 hs, .slice A n c, .slice A3 m c3] 58 (0, 0)), (gd, .cells #[.int .u32 tk, .int .u32 hs, .slice A n c, .slice A2 m c2] 41 (0, 0))] [fun X => k89.R 89 X gd (fun _ => True) (.slice A3 m c3) (C.map toR)]) W2 := hS
    have d3 : (vs 0) = .pointer (some ⟨gd, 0, none⟩) := hV 0 (Nat.le_of_ble_eq_true rfl)
    have d4 : (vs 1) = .int .u32 tk := hV 1 (Nat.le_of_ble_eq_true rfl)
    have d5 : (vs 2) = .pointer (some ⟨gd, 1, none⟩) := hV 2 (Nat.le_of_ble_eq_true rfl)
    have d6 : (vs 3) = .int .u32 hs := hV 3 (Nat.le_of_ble_eq_true rfl)
    have d7 : (vs 4) = .pointer (some ⟨gd, 2, none⟩) := hV 4 (Nat.le_of_ble_eq_true rfl)
    have d8 : (vs 5) = .slice A n c := hV 5 (Nat.le_of_ble_eq_true rfl)
    have d9 : (vs 6) = .pointer (some ⟨gd, 3, none⟩) := hV 6 (Nat.le_of_ble_eq_true rfl)
    have d10 : (vs 7) = .slice A2 m c2 := hV 7 (Nat.le_of_ble_eq_true rfl)
    have d11 : (fun (w : World) (v : Value) => True) W2 (vs 8) := hV 8 (Nat.le_of_ble_eq_true rfl)
    have d12 : (fun (w : World) (v : Value) => True) W2 (vs 9) := hV 9 (Nat.le_of_ble_eq_true rfl)
    clear hV
    simp only [putAll]
    rw [d3, d4, d5, d6, d7, d8, d9, d10]
    clear d3 d4 d5 d6 d7 d8 d9 d10
    generalize vs 8 = v11 at *
    generalize vs 9 = v12 at *
    generalize vs 10 = vN10
    clear vs
    simp only [Act.put, List.setIfInBounds_toArray, List.set_cons_zero, List.set_cons_succ]
    obtain ⟨A3, c3, hS⟩ := hS
    have H3 := Aside0.mk hS
    clear hS hC d11 d12
    go_wp2_with fail
    refine bodyPost_ret (results_cell_row rfl _ _ (gd + 1) _ #[.int .u32 tk, .int .u32 hs, .slice A n c, .slice A3 m c3] (0, 0) _ rfl (H3.out.get (i := 0) rfl) Try.underlying58 rfl (rdelta_info _ _ _ _)) rfl ?_
    rw [HGD.out]
    have k1 := Ru_C (H3.out.fact (i := 0) rfl)
    have k2 := (HF.out _ H3.out.bel).1
    refine ⟨_, rfl, ⟨A, c, A3, c3, ?_, ?_, ?_, ?_, ?_⟩, H3.out.bel⟩
    · rw [List.length_map, HMN.out.1, HMN.out.2]
    · rw [HMN.out.2]; exact HC.out.1
    · rw [List.length_map, HMN.out.1]; exact k1.2.1
    · rw [HMN.out.2]; exact k2
    · rw [List.length_map, HMN.out.1]; exact k1.2.2

theorem sameL_refl' (x : List S89) : sameL x x = true := (sameL_iff x x).2 rfl
set_option maxRecDepth 100000 in
set_option maxHeartbeats 8000000 in
theorem rsame7_any (tk hs : Int) (P : List Int) (R : List S89) (v u : Value) (w00 : World) (hv : DrC w00 tk hs P R v) (hu : DrC w00 tk hs P R u) (hn : R.length ≤ 1000000) :
    Calls Try.prog 21 #[v, u] w00 fun e w' => e = .returned (.bool true) ∧ Below w00.heap.size w00 w' := by
  obtain ⟨A, c, A2, c2, rfl, h2, h3, h4, h5⟩ := hv
  obtain ⟨B, d, B2, d2, rfl, k2, k3, k4, k5⟩ := hu
  have HC := Aside0.mk (And.intro h2 (And.intro h3 (And.intro k2 k3)))
  have HN := Aside0.mk hn
  have HF : Aside0 (∀ z, Below w00.heap.size w00 z → (Kd.int .u8).C z A P.length P ∧ k89.C z A2 R.length R ∧ (Kd.int .u8).C z B P.length P ∧ k89.C z B2 R.length R) := ⟨fun z hb => ⟨Kd.C_below h4 hb, Kd.C_below h5 hb, Kd.C_below k4 hb, Kd.C_below k5 hb⟩⟩
  have H0 := Aside0.mk (((Hp.start w00).alloc (.cells #[.int .u32 tk, .int .u32 hs, .slice A P.length c, .slice A2 R.length c2] 58)).allocAt (.cells #[.int .u32 tk, .int .u32 hs, .slice B P.length d, .slice B2 R.length d2] 58) (w00.heap.size + 1) (by simp))
  clear h2 h3 h4 h5 k2 k3 k4 k5 hn
  generalize P.length = n at *
  generalize R.length = m at *
  go_enter Try.func21, Try.ntmps21
  go_upto_region 1 with fail
  generalize (w00.alloc (.cells #[.int .u32 tk, .int .u32 hs, .slice A n c, .slice A2 m c2] 58)).alloc (.cells #[.int .u32 tk, .int .u32 hs, .slice B n d, .slice B2 m d2] 58) = W at *
  obtain ⟨gd, hgd⟩ : ∃ gd, w00.heap.size = gd := ⟨_, rfl⟩
  rw [hgd] at H0 HF
  rw [hgd]
  have HGD := Aside0.mk hgd
  clear hgd
  have a0 := blk_cell (H0.out.get (i := 1) rfl) 0
  have a1 := blk_cell (H0.out.get (i := 1) rfl) 1
  have a2 := blk_cell (H0.out.get (i := 1) rfl) 2
  have b0 := blk_cell (H0.out.get (i := 0) rfl) 0
  have b1 := blk_cell (H0.out.get (i := 0) rfl) 1
  have b2 := blk_cell (H0.out.get (i := 0) rfl) 2
  go_wp2_with fail
  obtain ⟨f1, f2, f3, f4⟩ := HF.out W H0.out.bel
  have KS := Aside0.mk (same_any A B n n c d P P W f1 HC.out.1 f3 HC.out.2.2.1)
  refine KS.out.mono ?_
  rintro e w1 ⟨rfl, hb1⟩
  have H1 := Aside0.mk (H0.out.call hb1)
  clear a0 a1 a2 b0 b1 b2 f1 f2 f3 f4 KS hb1 H0
  have a3 := blk_cell (H1.out.get (i := 1) rfl) 3
  have b3 := blk_cell (H1.out.get (i := 0) rfl) 3
  have ht : decide (P = P) = true := by simp
  rw [ht]
  clear ht
  go_wp2_with fail
  obtain ⟨f1, f2, f3, f4⟩ := HF.out w1 H1.out.bel
  have hm := f2.1
  have KC := Aside0.mk (csame_any A2 B2 m m c2 d2 R R w1 f2 f4 (by have := HN.out; omega) (by have := HN.out; omega))
  rw [sameL_refl'] at KC
  refine KC.out.mono ?_
  rintro e w2 ⟨rfl, hd⟩
  have H2 := Aside0.mk (H1.out.call hd.below)
  clear f1 f2 f3 f4 hm KC hd a3 b3 H1
  go_wp2_with fail
  go_ret
  rw [HGD.out]
  exact ⟨rfl, H2.out.bel⟩
end Go.Proofs.Ytkhlalpkkmjfnaa

namespace Go.Proofs.Ytkhlalpkkmjfnaa
open Go.RowKit Go.Proofs.YtkhlalpkkmjfnaaW.PrintWords Go.Proofs.YtkhlalpkkmjfnaaW.PrintLast Go.Proofs.YtkhlalpkkmjfnaaW.PrintMore
set_option linter.unusedVariables false
set_option linter.unusedSimpArgs false

theorem C_one_cellR {w : World} {g : Nat} {x : S89} (h : w.heap[g]? = some (.cells #[.int .i32 x.f0, .int .u32 x.f1] 89 (0, 0))) : ReadsRow (fun (y : S89) cs => cs = [.int .i32 y.f0, .int .u32 y.f1]) 2 w (some ⟨g, 0, none⟩) 1 [x] := by
  refine ⟨rfl, by decide, fun _ => ⟨_, rfl, fun j p hj => ?_⟩⟩
  have hj0 : j = 0 := by
    have := (List.getElem?_eq_some_iff.1 hj).1
    simp at this; exact this
  subst hj0
  obtain rfl : x = p := by simpa using hj
  refine ⟨[.int .i32 x.f0, .int .u32 x.f1], rfl, rfl, fun i u hu => ?_⟩
  show w.cell? ((⟨g, 0, none⟩ : Addr).add (0 * 2 + i)) = _
  rw [add_plain, Nat.zero_mul, Nat.zero_add]
  match i, hu with
  | 0, hu => exact (blk_cell h 0).trans hu
  | 1, hu => exact (blk_cell h 1).trans hu
  | i + 2, hu => simp at hu
theorem rcell_full : (Try.prog.info? 89).map (fun i => (i.zero, i.size, i.bytes)) = some (some (.agg #[.int .i32 0, .int .u32 0]), 2, 8) := by kernel_rfl
theorem clR_yes (f : Nat → S30) {t n : Nat} (h : bitT t n = true) : (clL f t (n + 1)).map toR = (clL f t n).map toR ++ [toR (f n)] := by rw [clL_yes f h, List.map_append]; rfl
theorem clR_no (f : Nat → S30) {t n : Nat} (h : bitT t n = false) : (clL f t (n + 1)).map toR = (clL f t n).map toR := by rw [clL_no f h]
theorem half_bit (t i : Nat) : t / 2 ^ i / 2 = t / 2 ^ (i + 1) := by rw [Nat.div_div_eq_div_mul, Nat.pow_succ]
theorem viewF_ok {f : Nat → S30} {m : Nat} {o : Int} (h : ∀ k, k < m → OkC (f k)) : ∀ k, k < m → OkC (viewF f m o k) := fun k hk => by
  have := h k hk
  unfold viewF
  split
  · exact ⟨by rfl, this.2⟩
  · exact this

set_option maxRecDepth 100000 in
set_option maxHeartbeats 8000000 in
theorem refof_any (f : Nat → S30) (m t : Nat) (o tk : Int) (A : Option Addr) (c : Nat) (w : World) (hr : k89.C w A m ((listF f m).map toR)) (hc : m ≤ c) (hn : m ≤ 48) (ht : t < 18446744073709551616) (hO : ∀ k, k < m → OkC (f k)) :
    Calls Try.prog 23 #[.slice A m c, .int .u64 t, .int .i64 o, .int .u32 tk] w fun e w' => ∃ v, e = .returned v ∧ DrC w' tk (sumB true (listF (viewF f m o) m)) (plL t m) ((clL (viewF f m o) t m).map toR) v ∧ Below w.heap.size w w' := by
  have HR := Aside0.mk (Kd.C_below hr (below_alloc (Below.refl _ _) (.cells #[.int .u32 0, .int .u32 0, .slice none 0 0, .slice none 0 0] 58)))
  have HU1 : Aside0 (∀ x ∈ (listF f m).map toR, U32 x.f1) := ⟨fun x hx => by
    obtain ⟨y, hy, rfl⟩ := List.mem_map.1 hx
    obtain ⟨k, hk, rfl⟩ := List.mem_map.1 hy
    exact (hO k (List.mem_range.1 hk)).u32⟩
  have HO2 := Aside0.mk (viewF_ok (o := o) hO)
  have HN := Aside0.mk hn
  have HCC := Aside0.mk hc
  have HT := Aside0.mk ht
  have H0 := Aside0.mk ((Hp.start w).alloc (.cells #[.int .u32 0, .int .u32 0, .slice none 0 0, .slice none 0 0] 58))
  have hlen : ((listF (viewF f m o) m).map toR).length = m := by rw [List.length_map, listF_length]
  have HLEN := Aside0.mk hlen
  have HTV := Aside0.mk (toR_view f m o)
  clear hr hc hn ht hO hlen
  go_enter Try.func23, Try.ntmps23
  go_wp2_with fail
  refine (refview_any A m c _ o _ HR.out HCC.out (by have := HN.out; omega) HU1.out).mono ?_
  rintro e w1 ⟨vv, rfl, hv, hb1⟩
  rw [HTV.out] at hv
  obtain ⟨Q, d, rfl, hd, hC⟩ := Kd.R_reads hv
  rw [HLEN.out] at hv hd hC
  rw [HLEN.out]
  have H1 := Aside0.mk (H0.out.row hb1 hv)
  have HD := Aside0.mk hd
  obtain ⟨g, hg⟩ : ∃ g, viewF f m o = g := ⟨_, rfl⟩
  rw [hg] at H1 hC HO2
  have HG := Aside0.mk hg
  have HCV := Aside0.mk hC
  clear hb1 hv hd hC HR H0 HU1 HTV hg
  go_wp2_with fail
  refine (refhash_any Q m d (listF g m) _ HCV.out HD.out HN.out (fun x hx => by
    obtain ⟨k, hk, rfl⟩ := List.mem_map.1 hx
    exact HO2.out k (List.mem_range.1 hk))).mono ?_
  rintro e w2 ⟨rfl, hb2⟩
  obtain ⟨hs, hhs⟩ : ∃ hs, sumB true (listF g m) = hs := ⟨_, rfl⟩
  rw [hhs]
  have HHS := Aside0.mk hhs
  have HCW := Aside0.mk (Kd.C_below HCV.out hb2)
  have H2 := Aside0.mk ((H1.out.call hb2).drop (F' := []) (fun φ h => by cases h))
  have HFV : Aside0 (∀ z, Below w2.heap.size w2 z → k89.C z Q m ((listF g m).map toR)) := ⟨fun z hz => Kd.C_below HCW.out hz⟩
  have H3 := Aside0.mk (H2.out.alloc (.cells #[.int .u32 tk, .int .u32 hs, .slice none 0 0, .slice none 0 0] 58))
  have HB3 := Aside0.mk (below_alloc (Below.refl w2.heap.size w2) (.cells #[.int .u32 tk, .int .u32 hs, .slice none 0 0, .slice none 0 0] 58))
  clear hb2 hhs H1 HCV HCW H2
  go_wp2_with fail
  generalize hW : w2.alloc (.cells #[.int .u32 tk, .int .u32 hs, .slice none 0 0, .slice none 0 0] 58) = w3 at *
  clear hW
  obtain ⟨gd, hgd⟩ : ∃ gd, w2.heap.size = gd := ⟨_, rfl⟩
  rw [hgd] at H3 HFV HB3
  rw [hgd]
  clear hgd
  generalize hB : w.heap.size = B at *
  have HBE := Aside0.mk hB
  clear hB
  go_loopw [1, 22] (fun v1 v22 wr => ∃ i : Nat, i ≤ m ∧ v22 = .int .i64 i ∧ ∃ s : Nat, v1 = .int .u64 s ∧ ∃ vP vC : Value, Aside0 (s = t / 2 ^ i ∧ Hp B w wr [(gd, .cells #[.int .u32 tk, .int .u32 hs, vP, vC] 58 (0, 0)), (B, .cells #[.int .u32 0, .int .u32 0, .slice none 0 0, .slice none 0 0] 58 (0, 0))] [] ∧ (Kd.int .u8).R 5 wr gd (fun _ => True) vP (plL t i) ∧ k89.R 89 wr gd (fun _ => True) vC ((clL g t i).map toR) ∧ Below gd w2 wr)) (fun _ v22 _ => m - (intOf v22).toNat)
  case atStart => exact ⟨0, by omega, rfl, t, rfl, .slice none 0 0, .slice none 0 0, ⟨by simp, H3.out, Kd.R_nil _ _ _ _ _, Kd.R_nil _ _ _ _ _, HB3.out⟩⟩
  case round =>
    clear H3 HB3
    obtain ⟨i, hi, rfl, s, rfl, vP, vC, H⟩ := hrel
    by_cases hlt : i < m
    · have d1 : decide (i < m) = true := decide_eq_true hlt
      have hi48 : (i : Int) < m := by omega
      have hi0 : (0 : Int) ≤ i := by omega
      have hn48 : m ≤ 48 := HN.out
      have hiR : i < ((listF g m).map toR).length := by rw [List.length_map, listF_length]; exact hlt
      obtain ⟨adq, hQ, q0, q1⟩ := cell_at52 (HFV.out wr H.out.2.2.2.2) hiR
      have hx : ((listF g m).map toR)[i] = toR (g i) := by rw [List.getElem_map, listF_get]
      rw [hx] at q0 q1
      obtain ⟨x, hx2⟩ : ∃ x, toR (g i) = x := ⟨_, rfl⟩
      rw [hx2] at q0 q1
      obtain ⟨s2, hs2⟩ : ∃ s2 : Nat, s / 2 = s2 := ⟨_, rfl⟩
      have HS2 : Aside0 (s2 = t / 2 ^ (i + 1)) := ⟨by rw [← hs2, H.out.1, half_bit]⟩
      have ht1 : (s : Int).tdiv 2 = (s2 : Int) := by rw [Int.tdiv_eq_ediv_of_nonneg (by omega)]; omega
      have ht2 : (s : Int) / 2 = (s2 : Int) := by omega
      have hw64 : s2 < 9223372036854775808 := by have := Nat.div_le_self t (2 ^ i); have := HT.out; have := H.out.1; omega
      have hwS : IntKind.u64.wrap (s2 : Int) = (s2 : Int) := IntWalk.u64_in _ (by omega)
      subst hQ
      cases hb : bitT t i with
      | false =>
        have e3 : s % 2 = 0 := by have := hb; unfold bitT at this; rw [← H.out.1] at this; simpa using this
        have m1 : (s : Int).tmod 2 = 0 := by rw [Int.tmod_eq_emod_of_nonneg (by omega)]; omega
        have m2 : (s : Int) % 2 = 0 := by omega
        have HPL := Aside0.mk (plL_no hb)
        have HCL := Aside0.mk (clR_no g hb)
        have H2 := Aside0.mk H.out.2
        clear hb e3 H hx hx2 hs2 hw64
        go_wp2_with fail
        generalize hz : wr.alloc (.cells #[.int .i32 x.f0, .int .u32 x.f1] 89) = z1 at *
        have hb1 : Below wr.heap.size wr z1 := by rw [← hz]; exact below_alloc (Below.refl _ _) _
        have H4 : Aside0 (s2 = t / 2 ^ (i + 1) ∧ Hp B w z1 [(gd, .cells #[.int .u32 tk, .int .u32 hs, vP, vC] 58 (0, 0)), (B, .cells #[.int .u32 0, .int .u32 0, .slice none 0 0, .slice none 0 0] 58 (0, 0))] [] ∧ (Kd.int .u8).R 5 z1 gd (fun _ => True) vP (plL t (i + 1)) ∧ k89.R 89 z1 gd (fun _ => True) vC ((clL g t (i + 1)).map toR) ∧ Below gd w2 z1) := ⟨by
          rw [HPL.out, HCL.out]
          exact ⟨HS2.out, H2.out.1.call hb1, Kd.R_below H2.out.2.1 hb1, Kd.R_below H2.out.2.2.1 hb1, H2.out.2.2.2.trans (hb1.mono (Nat.le_of_lt (H2.out.1.lt (i := 0) rfl)))⟩⟩
        clear hz hb1 H2
        go_roundw
        case rel => exact ⟨i + 1, by omega, by go_num, s2, rfl, vP, vC, H4⟩
        case measure => simp [intOf]; omega
      | true =>
        have e3 : s % 2 = 1 := by have := hb; unfold bitT at this; rw [← H.out.1] at this; simpa using this
        have m1 : (s : Int).tmod 2 = 1 := by rw [Int.tmod_eq_emod_of_nonneg (by omega)]; omega
        have m2 : (s : Int) % 2 = 1 := by omega
        have HPL := Aside0.mk (plL_yes hb)
        have hcl := clR_yes g hb
        rw [hx2] at hcl
        have HCL := Aside0.mk hcl
        have HPN : Aside0 ((plL t i).length ≤ 48 ∧ ((clL g t i).map toR).length ≤ 48) := ⟨by have := plL_len t i; have := clL_len g t i; rw [List.length_map]; omega⟩
        have H1 := Aside0.mk H.out.2
        clear hb e3 H hx hx2 hs2 hw64 hcl
        go_wp2_with fail
        have H2 := Aside0.mk (H1.out.1.alloc (.cells #[.int .i32 x.f0, .int .u32 x.f1] 89))
        have RP := Aside0.mk (Kd.R_below H1.out.2.1 (below_alloc (Below.refl _ _) (.cells #[.int .i32 x.f0, .int .u32 x.f1] 89)))
        have RC := Aside0.mk (Kd.R_below H1.out.2.2.1 (below_alloc (Below.refl _ _) (.cells #[.int .i32 x.f0, .int .u32 x.f1] 89)))
        have GX : Aside0 (wr.heap.size ≠ gd ∧ some wr.heap.size ≠ vP.ownBlock ∧ some wr.heap.size ≠ vC.ownBlock) := ⟨fun e => by have := H1.out.1.lt (i := 0) rfl; omega, fun e => by have := Kd.R_lt H1.out.2.1 _ e.symm; omega, fun e => by have := Kd.R_lt H1.out.2.2.1 _ e.symm; omega⟩
        have HBW : Aside0 (Below gd w2 (wr.alloc (.cells #[.int .i32 x.f0, .int .u32 x.f1] 89))) := ⟨H1.out.2.2.2.trans ((below_alloc (Below.refl _ _) _ : Below wr.heap.size wr _).mono (Nat.le_of_lt (H1.out.1.lt (i := 0) rfl)))⟩
        clear H1
        generalize wr.alloc (.cells #[.int .i32 x.f0, .int .u32 x.f1] 89) = z2 at *
        generalize wr.heap.size = gc at *
        have AP := Aside0.mk (Apart2.mk' RP.out RC.out (H2.out.get (i := 1) rfl) (by decide) (by decide) (by decide))
        have IX : Aside0 (IntKind.u8.wrap (i : Int) = (i : Int)) := ⟨IntWalk.u8_in _ (by omega)⟩
        have GN : Aside0 (gd ≤ z2.heap.size) := ⟨Nat.le_of_lt (H2.out.lt (i := 1) rfl)⟩
        have BG : Aside0 (gd ≤ gd) := ⟨Nat.le_refl _⟩
        have HGB := Aside0.mk (H2.out.ge (i := 1) rfl)
        refine region3 (W := z2)
          [⟨fun _ v => v = .pointer (some ⟨gd, 2, none⟩), none, fun _ => True⟩,
           ⟨fun _ v => v = vP, none, fun (w : World) => ∃ c3, w.heap[gd]? = some (.cells #[.int .u32 tk, .int .u32 hs, vP, c3] 58 (0, 0))⟩,
           ⟨fun _ v => v = .int .i64 i, none, fun _ => True⟩,
           ⟨fun _ v => v = .int .u8 i, none, fun _ => True⟩,
           ⟨fun (w : World) (v : Value) => ∃ b, v = .slice (some ⟨b, 0, none⟩) 1 1 ∧ z2.heap.size ≤ b ∧ w.heap[b]? = some (.cells #[.int .u8 i] 5 (0, 0)), none, fun _ => True⟩,
           ⟨fun (w : World) (v : Value) => (Kd.int .u8).R 5 w gd (fun _ => True) v (plL t i ++ [(i : Int)]) ∧ (v.ownBlock = vP.ownBlock ∨ ∃ b, v.ownBlock = some b ∧ z2.heap.size ≤ b), none, fun (w : World) => (Kd.int .u8).R 5 w gd (fun _ => True) vP (plL t i)⟩,
           ⟨fun _ v => v = .pointer (some ⟨gd, 3, none⟩), none, fun _ => True⟩,
           ⟨fun _ v => v = vC, none, fun (w : World) => ∃ c2, w.heap[gd]? = some (.cells #[.int .u32 tk, .int .u32 hs, c2, vC] 58 (0, 0))⟩,
           ⟨fun _ v => v = .agg #[.int .i32 x.f0, .int .u32 x.f1], none, fun _ => True⟩,
           ⟨fun (w : World) (v : Value) => ∃ b, v = .slice (some ⟨b, 0, none⟩) 1 1 ∧ z2.heap.size ≤ b ∧ w.heap[b]? = some (.cells #[.int .i32 x.f0, .int .u32 x.f1] 89 (0, 0)), none, fun _ => True⟩,
           ⟨fun (w : World) (v : Value) => k89.R 89 w gd (fun _ => True) v ((clL g t i).map toR ++ [x]) ∧ (v.ownBlock = vC.ownBlock ∨ ∃ b, v.ownBlock = some b ∧ z2.heap.size ≤ b), none, fun (w : World) => k89.R 89 w gd (fun _ => True) vC ((clL g t i).map toR)⟩,
           ⟨fun _ v => v = .pointer (some ⟨gd, 2, none⟩), none, fun _ => True⟩,
           ⟨fun _ _ => True, some (5, fun (w : World) (v : Value) => ∃ c3, w.heap[gd]? = some (.cells #[.int .u32 tk, .int .u32 hs, v, c3] 58 (0, 0))), fun _ => True⟩,
           ⟨fun _ v => v = .pointer (some ⟨gd, 3, none⟩), none, fun _ => True⟩,
           ⟨fun _ _ => True, some (10, fun (w : World) (v : Value) => ∃ c2, w.heap[gd]? = some (.cells #[.int .u32 tk, .int .u32 hs, c2, v] 58 (0, 0))), fun _ => True⟩]
          [(5, vP.ownBlock, fun _ _ => True), (10, vC.ownBlock, fun _ _ => True), (12, (some gd), fun z z' => ∃ u, z' = z.setCell ⟨gd, 2, none⟩ u), (14, (some gd), fun z z' => ∃ u, z' = z.setCell ⟨gd, 3, none⟩ u)]
          (fun j =>  none)
          (Cl2 gd z2 gd 58 (.int .u32 tk) (.int .u32 hs) vP.ownBlock vC.ownBlock)
          [(0, some 30), (1, some 31), (2, some 32), (3, some 33), (4, some 34), (5, some 35), (6, some 36), (7, some 37), (8, some 38), (9, some 39), (10, some 40), (11, some 41), (12, none), (13, some 42), (14, none)]
          []
          (by kernel_rfl) (by kernel_rfl) (by kernel_rfl) (by kernel_rfl) ?q7_1c ?q7_1u ?q7_1g ⟨?q7_1t0, ?q7_1t1, ?q7_1t2, ?q7_1t3, ?q7_1t4, ?q7_1t5, ?q7_1t6, ?q7_1t7, ?q7_1t8, ?q7_1t9, ?q7_1t10, ?q7_1t11, ?q7_1t12, ?q7_1t13, ?q7_1t14, trivial⟩ ⟨?q7_1o0, ?q7_1o1, ?q7_1o2, ?q7_1o3, ?q7_1o4, ?q7_1o5, ?q7_1o6, ?q7_1o7, ?q7_1o8, ?q7_1o9, ?q7_1o10, ?q7_1o11, ?q7_1o12, ?q7_1o13, ?q7_1o14, trivial⟩ ?q7_1e
        case q7_1c => exact ⟨below_drew (Below.refl _ _), ⟨vP, vC, H2.out.get (i := 1) rfl⟩, GN.out, fun _ _ _ _ _ => rfl⟩
        case q7_1u =>
          intro i hi
          match i, hi with
          | 0, _ => exact trivial
          | 1, _ => exact ⟨vC, H2.out.get (i := 1) rfl⟩
          | 2, _ => exact trivial
          | 3, _ => exact trivial
          | 4, _ => exact trivial
          | 5, _ => exact RP.out
          | 6, _ => exact trivial
          | 7, _ => exact ⟨vP, H2.out.get (i := 1) rfl⟩
          | 8, _ => exact trivial
          | 9, _ => exact trivial
          | 10, _ => exact RC.out
          | 11, _ => exact trivial
          | 12, _ => exact trivial
          | 13, _ => exact trivial
          | 14, _ => exact trivial
          | i + 15, hi => exact absurd hi (by show ¬ (i + 15 < 15); omega)
        case q7_1g =>
          intro j hj; cases hj
        case q7_1t0 => exact ⟨StabW.const _, trivial, StabU.true _⟩
        case q7_1t1 => exact ⟨StabW.const _, trivial, ⟨(by intro hne hdep w w' hg he h; first | (exact absurd (hdep _ rfl) (by decide +kernel)) | ((obtain ⟨c3, h⟩ := h; first | exact ⟨c3, (hg.block gd (blk_lt h) (by first | exact AP.out.gp | exact AP.out.gc)).trans h⟩ | (obtain ⟨u, rfl⟩ := he; exact ⟨u, blk_set h 3 u⟩)))), (by intro hne hdep w w' hg he h; first | (exact absurd (hdep _ rfl) (by decide +kernel)) | ((obtain ⟨c3, h⟩ := h; first | exact ⟨c3, (hg.block gd (blk_lt h) (by first | exact AP.out.gp | exact AP.out.gc)).trans h⟩ | (obtain ⟨u, rfl⟩ := he; exact ⟨u, blk_set h 3 u⟩)))), (by intro hne hdep w w' hg he h; first | (exact absurd (hdep _ rfl) (by decide +kernel)) | ((obtain ⟨c3, h⟩ := h; first | exact ⟨c3, (hg.block gd (blk_lt h) (by first | exact AP.out.gp | exact AP.out.gc)).trans h⟩ | (obtain ⟨u, rfl⟩ := he; exact ⟨u, blk_set h 3 u⟩)))), (by intro hne hdep w w' hg he h; first | (exact absurd (hdep _ rfl) (by decide +kernel)) | ((obtain ⟨c3, h⟩ := h; first | exact ⟨c3, (hg.block gd (blk_lt h) (by first | exact AP.out.gp | exact AP.out.gc)).trans h⟩ | (obtain ⟨u, rfl⟩ := he; exact ⟨u, blk_set h 3 u⟩)))), (by intro w w' hb h; (obtain ⟨c3, h⟩ := h; exact ⟨c3, blk_below h hb⟩))⟩⟩
        case q7_1t2 => exact ⟨StabW.const _, trivial, StabU.true _⟩
        case q7_1t3 => exact ⟨StabW.const _, trivial, StabU.true _⟩
        case q7_1t4 => exact ⟨⟨(by intro hne w w' v hg he h; (obtain ⟨b, h1, h2, h3⟩ := h; exact ⟨b, h1, h2, (hg.block b (blk_lt h3) (by first | exact (AP.out.new b h2).1 | exact (AP.out.new b h2).2.1 | exact (AP.out.new b h2).2.2)).trans h3⟩)), (by intro hne w w' v hg he h; (obtain ⟨b, h1, h2, h3⟩ := h; exact ⟨b, h1, h2, (hg.block b (blk_lt h3) (by first | exact (AP.out.new b h2).1 | exact (AP.out.new b h2).2.1 | exact (AP.out.new b h2).2.2)).trans h3⟩)), (by intro hne w w' v hg he h; (obtain ⟨b, h1, h2, h3⟩ := h; exact ⟨b, h1, h2, (hg.block b (blk_lt h3) (by first | exact (AP.out.new b h2).1 | exact (AP.out.new b h2).2.1 | exact (AP.out.new b h2).2.2)).trans h3⟩)), (by intro hne w w' v hg he h; (obtain ⟨b, h1, h2, h3⟩ := h; exact ⟨b, h1, h2, (hg.block b (blk_lt h3) (by first | exact (AP.out.new b h2).1 | exact (AP.out.new b h2).2.1 | exact (AP.out.new b h2).2.2)).trans h3⟩)), (by intro w w' v hb h; (obtain ⟨b, h1, h2, h3⟩ := h; exact ⟨b, h1, h2, blk_below h3 hb⟩))⟩, trivial, StabU.true _⟩
        case q7_1t5 => exact ⟨⟨fun hne => absurd rfl hne, (by intro hne w w' v hg he h; (exact ⟨Kd.R_grown2 h.1 rfl hg (by first | exact (AP.out.newP h.2).1 | exact (AP.out.newP h.2).2), h.2⟩)), (by intro hne w w' v hg he h; (exact ⟨Kd.R_grown2 h.1 rfl hg (by first | exact (AP.out.newP h.2).1 | exact (AP.out.newP h.2).2), h.2⟩)), (by intro hne w w' v hg he h; (exact ⟨Kd.R_grown2 h.1 rfl hg (by first | exact (AP.out.newP h.2).1 | exact (AP.out.newP h.2).2), h.2⟩)), (by intro w w' v hb h; exact ⟨Kd.R_below h.1 hb, h.2⟩)⟩, trivial, ⟨fun hne => absurd rfl hne, (by intro hne hdep w w' hg he h; first | (exact absurd (hdep _ rfl) (by decide +kernel)) | ((exact Kd.R_grown2 h rfl hg (by first | exact (AP.out.newP (.inl rfl)).1 | exact (AP.out.newP (.inl rfl)).2)))), (by intro hne hdep w w' hg he h; first | (exact absurd (hdep _ rfl) (by decide +kernel)) | ((exact Kd.R_grown2 h rfl hg (by first | exact (AP.out.newP (.inl rfl)).1 | exact (AP.out.newP (.inl rfl)).2)))), (by intro hne hdep w w' hg he h; first | (exact absurd (hdep _ rfl) (by decide +kernel)) | ((exact Kd.R_grown2 h rfl hg (by first | exact (AP.out.newP (.inl rfl)).1 | exact (AP.out.newP (.inl rfl)).2)))), (by intro w w' hb h; exact Kd.R_below h hb)⟩⟩
        case q7_1t6 => exact ⟨StabW.const _, trivial, StabU.true _⟩
        case q7_1t7 => exact ⟨StabW.const _, trivial, ⟨(by intro hne hdep w w' hg he h; first | (exact absurd (hdep _ rfl) (by decide +kernel)) | ((obtain ⟨c2, h⟩ := h; first | exact ⟨c2, (hg.block gd (blk_lt h) (by first | exact AP.out.gp | exact AP.out.gc)).trans h⟩ | (obtain ⟨u, rfl⟩ := he; exact ⟨u, blk_set h 2 u⟩)))), (by intro hne hdep w w' hg he h; first | (exact absurd (hdep _ rfl) (by decide +kernel)) | ((obtain ⟨c2, h⟩ := h; first | exact ⟨c2, (hg.block gd (blk_lt h) (by first | exact AP.out.gp | exact AP.out.gc)).trans h⟩ | (obtain ⟨u, rfl⟩ := he; exact ⟨u, blk_set h 2 u⟩)))), (by intro hne hdep w w' hg he h; first | (exact absurd (hdep _ rfl) (by decide +kernel)) | ((obtain ⟨c2, h⟩ := h; first | exact ⟨c2, (hg.block gd (blk_lt h) (by first | exact AP.out.gp | exact AP.out.gc)).trans h⟩ | (obtain ⟨u, rfl⟩ := he; exact ⟨u, blk_set h 2 u⟩)))), (by intro hne hdep w w' hg he h; first | (exact absurd (hdep _ rfl) (by decide +kernel)) | ((obtain ⟨c2, h⟩ := h; first | exact ⟨c2, (hg.block gd (blk_lt h) (by first | exact AP.out.gp | exact AP.out.gc)).trans h⟩ | (obtain ⟨u, rfl⟩ := he; exact ⟨u, blk_set h 2 u⟩)))), (by intro w w' hb h; (obtain ⟨c2, h⟩ := h; exact ⟨c2, blk_below h hb⟩))⟩⟩
        case q7_1t8 => exact ⟨StabW.const _, trivial, StabU.true _⟩
        case q7_1t9 => exact ⟨⟨(by intro hne w w' v hg he h; (obtain ⟨b, h1, h2, h3⟩ := h; exact ⟨b, h1, h2, (hg.block b (blk_lt h3) (by first | exact (AP.out.new b h2).1 | exact (AP.out.new b h2).2.1 | exact (AP.out.new b h2).2.2)).trans h3⟩)), (by intro hne w w' v hg he h; (obtain ⟨b, h1, h2, h3⟩ := h; exact ⟨b, h1, h2, (hg.block b (blk_lt h3) (by first | exact (AP.out.new b h2).1 | exact (AP.out.new b h2).2.1 | exact (AP.out.new b h2).2.2)).trans h3⟩)), (by intro hne w w' v hg he h; (obtain ⟨b, h1, h2, h3⟩ := h; exact ⟨b, h1, h2, (hg.block b (blk_lt h3) (by first | exact (AP.out.new b h2).1 | exact (AP.out.new b h2).2.1 | exact (AP.out.new b h2).2.2)).trans h3⟩)), (by intro hne w w' v hg he h; (obtain ⟨b, h1, h2, h3⟩ := h; exact ⟨b, h1, h2, (hg.block b (blk_lt h3) (by first | exact (AP.out.new b h2).1 | exact (AP.out.new b h2).2.1 | exact (AP.out.new b h2).2.2)).trans h3⟩)), (by intro w w' v hb h; (obtain ⟨b, h1, h2, h3⟩ := h; exact ⟨b, h1, h2, blk_below h3 hb⟩))⟩, trivial, StabU.true _⟩
        case q7_1t10 => exact ⟨⟨(by intro hne w w' v hg he h; (exact ⟨Kd.R_grown2 h.1 rfl hg (by first | exact (AP.out.newC h.2).1 | exact (AP.out.newC h.2).2), h.2⟩)), fun hne => absurd rfl hne, (by intro hne w w' v hg he h; (exact ⟨Kd.R_grown2 h.1 rfl hg (by first | exact (AP.out.newC h.2).1 | exact (AP.out.newC h.2).2), h.2⟩)), (by intro hne w w' v hg he h; (exact ⟨Kd.R_grown2 h.1 rfl hg (by first | exact (AP.out.newC h.2).1 | exact (AP.out.newC h.2).2), h.2⟩)), (by intro w w' v hb h; exact ⟨Kd.R_below h.1 hb, h.2⟩)⟩, trivial, ⟨(by intro hne hdep w w' hg he h; first | (exact absurd (hdep _ rfl) (by decide +kernel)) | ((exact Kd.R_grown2 h rfl hg (by first | exact (AP.out.newC (.inl rfl)).1 | exact (AP.out.newC (.inl rfl)).2)))), fun hne => absurd rfl hne, (by intro hne hdep w w' hg he h; first | (exact absurd (hdep _ rfl) (by decide +kernel)) | ((exact Kd.R_grown2 h rfl hg (by first | exact (AP.out.newC (.inl rfl)).1 | exact (AP.out.newC (.inl rfl)).2)))), (by intro hne hdep w w' hg he h; first | (exact absurd (hdep _ rfl) (by decide +kernel)) | ((exact Kd.R_grown2 h rfl hg (by first | exact (AP.out.newC (.inl rfl)).1 | exact (AP.out.newC (.inl rfl)).2)))), (by intro w w' hb h; exact Kd.R_below h hb)⟩⟩
        case q7_1t11 => exact ⟨StabW.const _, trivial, StabU.true _⟩
        case q7_1t12 => exact ⟨StabW.const _, ⟨⟨(by intro hne w w' v hg he h; (obtain ⟨c3, h⟩ := h; first | exact ⟨c3, (hg.block gd (blk_lt h) (by first | exact AP.out.gp | exact AP.out.gc)).trans h⟩ | (obtain ⟨u, rfl⟩ := he; exact ⟨u, blk_set h 3 u⟩))), (by intro hne w w' v hg he h; (obtain ⟨c3, h⟩ := h; first | exact ⟨c3, (hg.block gd (blk_lt h) (by first | exact AP.out.gp | exact AP.out.gc)).trans h⟩ | (obtain ⟨u, rfl⟩ := he; exact ⟨u, blk_set h 3 u⟩))), fun hne => absurd rfl hne, (by intro hne w w' v hg he h; (obtain ⟨c3, h⟩ := h; first | exact ⟨c3, (hg.block gd (blk_lt h) (by first | exact AP.out.gp | exact AP.out.gc)).trans h⟩ | (obtain ⟨u, rfl⟩ := he; exact ⟨u, blk_set h 3 u⟩))), (by intro w w' v hb h; (obtain ⟨c3, h⟩ := h; exact ⟨c3, blk_below h hb⟩))⟩, fun o ho => by obtain rfl := Option.some.inj ho; decide +kernel⟩, StabU.true _⟩
        case q7_1t13 => exact ⟨StabW.const _, trivial, StabU.true _⟩
        case q7_1t14 => exact ⟨StabW.const _, ⟨⟨(by intro hne w w' v hg he h; (obtain ⟨c2, h⟩ := h; first | exact ⟨c2, (hg.block gd (blk_lt h) (by first | exact AP.out.gp | exact AP.out.gc)).trans h⟩ | (obtain ⟨u, rfl⟩ := he; exact ⟨u, blk_set h 2 u⟩))), (by intro hne w w' v hg he h; (obtain ⟨c2, h⟩ := h; first | exact ⟨c2, (hg.block gd (blk_lt h) (by first | exact AP.out.gp | exact AP.out.gc)).trans h⟩ | (obtain ⟨u, rfl⟩ := he; exact ⟨u, blk_set h 2 u⟩))), (by intro hne w w' v hg he h; (obtain ⟨c2, h⟩ := h; first | exact ⟨c2, (hg.block gd (blk_lt h) (by first | exact AP.out.gp | exact AP.out.gc)).trans h⟩ | (obtain ⟨u, rfl⟩ := he; exact ⟨u, blk_set h 2 u⟩))), fun hne => absurd rfl hne, (by intro w w' v hb h; (obtain ⟨c2, h⟩ := h; exact ⟨c2, blk_below h hb⟩))⟩, fun o ho => by obtain rfl := Option.some.inj ho; decide +kernel⟩, StabU.true _⟩
        case q7_1o0 =>
          intro vs w hC hV hU hUk
          rw [if_pos (by kernel_rfl)]
          generalize hρ : rho _ _ _ vs = ρ
          have e10 : ρ (.tmp 10) = .pointer (some ⟨gd, 0, none⟩) := by rw [← hρ]; kernel_rfl
          clear hρ
          refine runs_val (v := .pointer (some ⟨gd, 2, none⟩)) (w' := w) ?_ ⟨hC, StepW.refl _ _ _, rfl, trivial⟩
          clear hV hU hUk
          go_simp <;> (first | exact IntWalk.u64_in _ (by omega) | exact IntWalk.u32_in _ (by omega) | exact IntWalk.u16_in _ (by omega) | exact IntWalk.u8_in _ (by omega) | exact IntWalk.i64_in _ (by omega) | skip)
        case q7_1o1 =>
          intro vs w hC hV hU hUk
          rw [if_pos (by kernel_rfl)]
          generalize hρ : rho _ _ _ vs = ρ
          have d30 : (vs 0) = .pointer (some ⟨gd, 2, none⟩) := (hV 0 (by kernel_rfl)).1
          have e30 : ρ (.tmp 30) = vs 0 := by rw [← hρ]; kernel_rfl
          rw [d30] at e30; clear d30
          clear hρ
          obtain ⟨c3, hu⟩ : ∃ c3, w.heap[gd]? = some (.cells #[.int .u32 tk, .int .u32 hs, vP, c3] 58 (0, 0)) := hU
          have c0 := blk_cell hu 2
          refine runs_val (v := vP) (w' := w) ?_ ⟨hC, StepW.refl _ _ _, rfl, trivial⟩
          clear hV hUk hC hu
          go_simp
        case q7_1o2 =>
          intro vs w hC hV hU hUk
          rw [if_pos (by kernel_rfl)]
          generalize hρ : rho _ _ _ vs = ρ
          have e11 : ρ (.tmp 11) = .int .i64 i := by rw [← hρ]; kernel_rfl
          clear hρ
          refine runs_val (v := .int .i64 i) (w' := w) ?_ ⟨hC, StepW.refl _ _ _, rfl, trivial⟩
          clear hV hU hUk
          go_simp <;> (first | exact IntWalk.u64_in _ (by omega) | exact IntWalk.u32_in _ (by omega) | exact IntWalk.u16_in _ (by omega) | exact IntWalk.u8_in _ (by omega) | exact IntWalk.i64_in _ (by omega) | skip)
        case q7_1o3 =>
          intro vs w hC hV hU hUk
          rw [if_pos (by kernel_rfl)]
          generalize hρ : rho _ _ _ vs = ρ
          have d32 : (vs 2) = .int .i64 i := (hV 2 (by kernel_rfl)).1
          have e32 : ρ (.tmp 32) = vs 2 := by rw [← hρ]; kernel_rfl
          rw [d32] at e32; clear d32
          clear hρ
          have ix := IX.out
          refine runs_val (v := .int .u8 i) (w' := w) ?_ ⟨hC, StepW.refl _ _ _, rfl, trivial⟩
          clear hV hU hUk hC
          go_simp
        case q7_1o4 =>
          intro vs w hC hV hU hUk
          rw [if_pos (by kernel_rfl)]
          generalize hρ : rho _ _ _ vs = ρ
          have d33 : (vs 3) = .int .u8 i := (hV 3 (by kernel_rfl)).1
          have e33 : ρ (.tmp 33) = vs 3 := by rw [← hρ]; kernel_rfl
          rw [d33] at e33; clear d33
          clear hρ
          refine runs_val (v := .slice (some ⟨w.heap.size, 0, none⟩) 1 1) (w' := w.alloc (.cells #[.int .u8 i] 5)) ?_ ⟨hC.below (below_alloc (Below.refl _ _) _), StepW.miss (below_alloc (Below.refl _ _) _) rfl, ⟨w.heap.size, rfl, hC.1.size, blk_new _ _⟩, trivial⟩
          clear hV hU hUk hC
          go_simp
        case q7_1o5 =>
          intro vs w hC hV hU hUk
          rw [if_pos (by kernel_rfl)]
          generalize hρ : rho _ _ _ vs = ρ
          have d31 : (vs 1) = vP := (hV 1 (by kernel_rfl)).1
          have e31 : ρ (.tmp 31) = vs 1 := by rw [← hρ]; kernel_rfl
          rw [d31] at e31; clear d31
          have d34 : (fun (w : World) (v : Value) => ∃ b, v = .slice (some ⟨b, 0, none⟩) 1 1 ∧ z2.heap.size ≤ b ∧ w.heap[b]? = some (.cells #[.int .u8 i] 5 (0, 0))) w (vs 4) := (hV 4 (by kernel_rfl)).1
          have e34 : ρ (.tmp 34) = vs 4 := by rw [← hρ]; kernel_rfl
          obtain ⟨b, hve34, hb1, hb2⟩ := d34
          clear hρ
          rw [hve34] at e34
          refine runs_append (Kd.int .u8) (Rr := fun x cs => cs = [.int .u8 x]) gd 31 34 39 5 (.int .u8 0) 1 rfl Try.underlying39 np_info rfl (by decide) (by decide) vP (plL t i) [(i : Int)] (some ⟨b, 0, none⟩) 1 1 (fun _ => True) (fun _ => False) e31 e34 hU (C_of_block (k := .u8) hb2 ⟨rfl, rfl, by decide⟩) (fun _ _ h => h) (fun _ h => h.elim) (fun _ _ => trivial) hC.le (by have := HPN.out; omega) ?_
          intro v1 w1 h1 hg1 hat
          exact ⟨hC.row hg1 (.inl rfl) (fun k hk => Kd.R_base hU k hk) AP.out.gp, StepW.hit hg1 trivial rfl, ⟨h1, hat.imp_right (fun ⟨b, h1, h2⟩ => ⟨b, h1, Nat.le_trans hC.1.size h2⟩)⟩, trivial⟩
        case q7_1o6 =>
          intro vs w hC hV hU hUk
          rw [if_pos (by kernel_rfl)]
          generalize hρ : rho _ _ _ vs = ρ
          have e10 : ρ (.tmp 10) = .pointer (some ⟨gd, 0, none⟩) := by rw [← hρ]; kernel_rfl
          clear hρ
          refine runs_val (v := .pointer (some ⟨gd, 3, none⟩)) (w' := w) ?_ ⟨hC, StepW.refl _ _ _, rfl, trivial⟩
          clear hV hU hUk
          go_simp <;> (first | exact IntWalk.u64_in _ (by omega) | exact IntWalk.u32_in _ (by omega) | exact IntWalk.u16_in _ (by omega) | exact IntWalk.u8_in _ (by omega) | exact IntWalk.i64_in _ (by omega) | skip)
        case q7_1o7 =>
          intro vs w hC hV hU hUk
          rw [if_pos (by kernel_rfl)]
          generalize hρ : rho _ _ _ vs = ρ
          have d36 : (vs 6) = .pointer (some ⟨gd, 3, none⟩) := (hV 6 (by kernel_rfl)).1
          have e36 : ρ (.tmp 36) = vs 6 := by rw [← hρ]; kernel_rfl
          rw [d36] at e36; clear d36
          clear hρ
          obtain ⟨c2, hu⟩ : ∃ c2, w.heap[gd]? = some (.cells #[.int .u32 tk, .int .u32 hs, c2, vC] 58 (0, 0)) := hU
          have c0 := blk_cell hu 3
          refine runs_val (v := vC) (w' := w) ?_ ⟨hC, StepW.refl _ _ _, rfl, trivial⟩
          clear hV hUk hC hu
          go_simp
        case q7_1o8 =>
          intro vs w hC hV hU hUk
          rw [if_pos (by kernel_rfl)]
          generalize hρ : rho _ _ _ vs = ρ
          have e12 : ρ (.tmp 12) = .pointer (some ⟨gc, 0, none⟩) := by rw [← hρ]; kernel_rfl
          clear hρ
          have hgc : w.heap[gc]? = some (.cells #[.int .i32 x.f0, .int .u32 x.f1] 89 (0, 0)) := (hC.2.2.2 gc (H2.out.lt (i := 0) rfl) GX.out.1 GX.out.2.1 GX.out.2.2).trans (H2.out.get (i := 0) rfl)
          have c0 := blk_cell hgc 0
          have c1 := blk_cell hgc 1
          refine runs_val (v := .agg #[.int .i32 x.f0, .int .u32 x.f1]) (w' := w) ?_ ⟨hC, StepW.refl _ _ _, rfl, trivial⟩
          clear hV hU hUk hC hgc
          go_simp
        case q7_1o9 =>
          intro vs w hC hV hU hUk
          rw [if_pos (by kernel_rfl)]
          generalize hρ : rho _ _ _ vs = ρ
          have d38 : (vs 8) = .agg #[.int .i32 x.f0, .int .u32 x.f1] := (hV 8 (by kernel_rfl)).1
          have e38 : ρ (.tmp 38) = vs 8 := by rw [← hρ]; kernel_rfl
          rw [d38] at e38; clear d38
          clear hρ
          refine runs_val (v := .slice (some ⟨w.heap.size, 0, none⟩) 1 1) (w' := w.alloc (.cells #[.int .i32 x.f0, .int .u32 x.f1] 89)) ?_ ⟨hC.below (below_alloc (Below.refl _ _) _), StepW.miss (below_alloc (Below.refl _ _) _) rfl, ⟨w.heap.size, rfl, hC.1.size, blk_new _ _⟩, trivial⟩
          clear hV hU hUk hC
          go_simp
        case q7_1o10 =>
          intro vs w hC hV hU hUk
          rw [if_pos (by kernel_rfl)]
          generalize hρ : rho _ _ _ vs = ρ
          have d37 : (vs 7) = vC := (hV 7 (by kernel_rfl)).1
          have e37 : ρ (.tmp 37) = vs 7 := by rw [← hρ]; kernel_rfl
          rw [d37] at e37; clear d37
          have d39 : (fun (w : World) (v : Value) => ∃ b, v = .slice (some ⟨b, 0, none⟩) 1 1 ∧ z2.heap.size ≤ b ∧ w.heap[b]? = some (.cells #[.int .i32 x.f0, .int .u32 x.f1] 89 (0, 0))) w (vs 9) := (hV 9 (by kernel_rfl)).1
          have e39 : ρ (.tmp 39) = vs 9 := by rw [← hρ]; kernel_rfl
          obtain ⟨b, hve39, hb1, hb2⟩ := d39
          clear hρ
          rw [hve39] at e39
          refine runs_append k89 (Rr := fun y cs => cs = [.int .i32 y.f0, .int .u32 y.f1]) gd 37 39 56 89 (.agg #[.int .i32 0, .int .u32 0]) 8 rfl Try.underlying56 rcell_full rfl (by decide) (by decide) vC ((clL g t i).map toR) [x] (some ⟨b, 0, none⟩) 1 1 (fun _ => True) (fun _ => False) e37 e39 hU (C_one_cellR hb2) (fun y cs h => by rw [h]; exact k89_mkM _ _ _ y) (fun _ h => h.elim) (fun _ _ => trivial) hC.le (by have := HPN.out; omega) ?_
          intro v1 w1 h1 hg1 hat
          exact ⟨hC.row hg1 (.inr rfl) (fun k hk => Kd.R_base hU k hk) AP.out.gc, StepW.hit hg1 trivial rfl, ⟨h1, hat.imp_right (fun ⟨b, h1, h2⟩ => ⟨b, h1, Nat.le_trans hC.1.size h2⟩)⟩, trivial⟩
        case q7_1o11 =>
          intro vs w hC hV hU hUk
          rw [if_pos (by kernel_rfl)]
          generalize hρ : rho _ _ _ vs = ρ
          have e10 : ρ (.tmp 10) = .pointer (some ⟨gd, 0, none⟩) := by rw [← hρ]; kernel_rfl
          clear hρ
          refine runs_val (v := .pointer (some ⟨gd, 2, none⟩)) (w' := w) ?_ ⟨hC, StepW.refl _ _ _, rfl, trivial⟩
          clear hV hU hUk
          go_simp <;> (first | exact IntWalk.u64_in _ (by omega) | exact IntWalk.u32_in _ (by omega) | exact IntWalk.u16_in _ (by omega) | exact IntWalk.u8_in _ (by omega) | exact IntWalk.i64_in _ (by omega) | skip)
        case q7_1o12 =>
          intro vs w hC hV hU hUk
          rw [if_pos (by kernel_rfl)]
          generalize hρ : rho _ _ _ vs = ρ
          have d41 : (vs 11) = .pointer (some ⟨gd, 2, none⟩) := (hV 11 (by kernel_rfl)).1
          have e41 : ρ (.tmp 41) = vs 11 := by rw [← hρ]; kernel_rfl
          rw [d41] at e41; clear d41
          have d35 : (fun (w : World) (v : Value) => (Kd.int .u8).R 5 w gd (fun _ => True) v (plL t i ++ [(i : Int)]) ∧ (v.ownBlock = vP.ownBlock ∨ ∃ b, v.ownBlock = some b ∧ z2.heap.size ≤ b)) w (vs 5) := (hV 5 (by kernel_rfl)).1
          have e35 : ρ (.tmp 35) = vs 5 := by rw [← hρ]; kernel_rfl
          clear hρ
          obtain ⟨c2, c3, hu⟩ := hC.2.1
          obtain ⟨A5, c5, hs5⟩ := Kd.R_slice d35.1
          have c0 := blk_cell hu 2
          have f0 := blk_frozen hu 2
          refine runs_skip (w' := w.setCell ⟨gd, 2, none⟩ (vs 5)) ?_ ⟨hC.set2 _ BG.out, StepW.hit (grown_setCell _ _ _ _) ⟨_, rfl⟩ rfl, trivial, ⟨c3, blk_set hu 2 _⟩⟩
          rw [hs5] at e35
          rw [hs5]
          clear hV hU hUk hC hu d35 hs5
          go_simp
        case q7_1o13 =>
          intro vs w hC hV hU hUk
          rw [if_pos (by kernel_rfl)]
          generalize hρ : rho _ _ _ vs = ρ
          have e10 : ρ (.tmp 10) = .pointer (some ⟨gd, 0, none⟩) := by rw [← hρ]; kernel_rfl
          clear hρ
          refine runs_val (v := .pointer (some ⟨gd, 3, none⟩)) (w' := w) ?_ ⟨hC, StepW.refl _ _ _, rfl, trivial⟩
          clear hV hU hUk
          go_simp <;> (first | exact IntWalk.u64_in _ (by omega) | exact IntWalk.u32_in _ (by omega) | exact IntWalk.u16_in _ (by omega) | exact IntWalk.u8_in _ (by omega) | exact IntWalk.i64_in _ (by omega) | skip)
        case q7_1o14 =>
          intro vs w hC hV hU hUk
          rw [if_pos (by kernel_rfl)]
          generalize hρ : rho _ _ _ vs = ρ
          have d42 : (vs 13) = .pointer (some ⟨gd, 3, none⟩) := (hV 13 (by kernel_rfl)).1
          have e42 : ρ (.tmp 42) = vs 13 := by rw [← hρ]; kernel_rfl
          rw [d42] at e42; clear d42
          have d40 : (fun (w : World) (v : Value) => k89.R 89 w gd (fun _ => True) v ((clL g t i).map toR ++ [x]) ∧ (v.ownBlock = vC.ownBlock ∨ ∃ b, v.ownBlock = some b ∧ z2.heap.size ≤ b)) w (vs 10) := (hV 10 (by kernel_rfl)).1
          have e40 : ρ (.tmp 40) = vs 10 := by rw [← hρ]; kernel_rfl
          clear hρ
          obtain ⟨c2, c3, hu⟩ := hC.2.1
          obtain ⟨A5, c5, hs5⟩ := Kd.R_slice d40.1
          have c0 := blk_cell hu 3
          have f0 := blk_frozen hu 3
          refine runs_skip (w' := w.setCell ⟨gd, 3, none⟩ (vs 10)) ?_ ⟨hC.set3 _ BG.out, StepW.hit (grown_setCell _ _ _ _) ⟨_, rfl⟩ rfl, trivial, ⟨c2, blk_set hu 3 _⟩⟩
          rw [hs5] at e40
          rw [hs5]
          clear hV hU hUk hC hu d40 hs5
          go_simp
        case q7_1e =>
          intro vs z3 hC hV hX
          have d30 : (vs 0) = .pointer (some ⟨gd, 2, none⟩) := hV 0 (Nat.le_of_ble_eq_true rfl)
          have d31 : (vs 1) = vP := hV 1 (Nat.le_of_ble_eq_true rfl)
          have d32 : (vs 2) = .int .i64 i := hV 2 (Nat.le_of_ble_eq_true rfl)
          have d33 : (vs 3) = .int .u8 i := hV 3 (Nat.le_of_ble_eq_true rfl)
          have d34 : (fun (w : World) (v : Value) => ∃ b, v = .slice (some ⟨b, 0, none⟩) 1 1 ∧ z2.heap.size ≤ b ∧ w.heap[b]? = some (.cells #[.int .u8 i] 5 (0, 0))) z3 (vs 4) := hV 4 (Nat.le_of_ble_eq_true rfl)
          have d35 : (fun (w : World) (v : Value) => (Kd.int .u8).R 5 w gd (fun _ => True) v (plL t i ++ [(i : Int)]) ∧ (v.ownBlock = vP.ownBlock ∨ ∃ b, v.ownBlock = some b ∧ z2.heap.size ≤ b)) z3 (vs 5) := hV 5 (Nat.le_of_ble_eq_true rfl)
          have d36 : (vs 6) = .pointer (some ⟨gd, 3, none⟩) := hV 6 (Nat.le_of_ble_eq_true rfl)
          have d37 : (vs 7) = vC := hV 7 (Nat.le_of_ble_eq_true rfl)
          have d38 : (vs 8) = .agg #[.int .i32 x.f0, .int .u32 x.f1] := hV 8 (Nat.le_of_ble_eq_true rfl)
          have d39 : (fun (w : World) (v : Value) => ∃ b, v = .slice (some ⟨b, 0, none⟩) 1 1 ∧ z2.heap.size ≤ b ∧ w.heap[b]? = some (.cells #[.int .i32 x.f0, .int .u32 x.f1] 89 (0, 0))) z3 (vs 9) := hV 9 (Nat.le_of_ble_eq_true rfl)
          have d40 : (fun (w : World) (v : Value) => k89.R 89 w gd (fun _ => True) v ((clL g t i).map toR ++ [x]) ∧ (v.ownBlock = vC.ownBlock ∨ ∃ b, v.ownBlock = some b ∧ z2.heap.size ≤ b)) z3 (vs 10) := hV 10 (Nat.le_of_ble_eq_true rfl)
          have d41 : (vs 11) = .pointer (some ⟨gd, 2, none⟩) := hV 11 (Nat.le_of_ble_eq_true rfl)
          have x12 : (fun (w : World) (v : Value) => ∃ c3, w.heap[gd]? = some (.cells #[.int .u32 tk, .int .u32 hs, v, c3] 58 (0, 0))) z3 (vs 5) := hX 12 (Nat.le_of_ble_eq_true rfl)
          have d42 : (vs 13) = .pointer (some ⟨gd, 3, none⟩) := hV 13 (Nat.le_of_ble_eq_true rfl)
          have x14 : (fun (w : World) (v : Value) => ∃ c2, w.heap[gd]? = some (.cells #[.int .u32 tk, .int .u32 hs, c2, v] 58 (0, 0))) z3 (vs 10) := hX 14 (Nat.le_of_ble_eq_true rfl)
          clear hV hX
          simp only [putAll]
          rw [d30, d31, d32, d33, d36, d37, d38, d41, d42]
          clear d30 d31 d32 d33 d36 d37 d38 d41 d42
          generalize vs 4 = v34 at *
          generalize vs 5 = v35 at *
          generalize vs 9 = v39 at *
          generalize vs 10 = v40 at *
          generalize vs 12 = vN12
          generalize vs 14 = vN14
          clear vs
          simp only [Act.put, List.setIfInBounds_toArray, List.set_cons_zero, List.set_cons_succ]
          obtain ⟨c3, h12⟩ := x12
          obtain ⟨c2, h14⟩ := x14
          obtain ⟨rfl, rfl⟩ : c3 = v40 ∧ c2 = v35 := by
            have := h12.symm.trans h14
            simp at this
            exact ⟨this.2, this.1.symm⟩
          have H3 : Aside0 (Hp B w z3 [(gd, .cells #[.int .u32 tk, .int .u32 hs, c2, c3] 58 (0, 0)), (B, .cells #[.int .u32 0, .int .u32 0, .slice none 0 0, .slice none 0 0] 58 (0, 0))] []) := ⟨H2.out.rest.rows (hC.1.mono HGB.out) h12 hC.2.2.2 (fun p hp => by
            simp only [List.mem_cons, List.not_mem_nil, or_false] at hp
            rcases hp with rfl
            exact ⟨Kd.R_ne RP.out (H2.out.get (i := 2) rfl) (by decide), Kd.R_ne RC.out (H2.out.get (i := 2) rfl) (by decide)⟩)⟩
          have HB4 : Aside0 (Below gd w2 z3) := ⟨HBW.out.trans hC.1⟩
          have H4 : Aside0 (s2 = t / 2 ^ (i + 1) ∧ Hp B w z3 [(gd, .cells #[.int .u32 tk, .int .u32 hs, c2, c3] 58 (0, 0)), (B, .cells #[.int .u32 0, .int .u32 0, .slice none 0 0, .slice none 0 0] 58 (0, 0))] [] ∧ (Kd.int .u8).R 5 z3 gd (fun _ => True) c2 (plL t (i + 1)) ∧ k89.R 89 z3 gd (fun _ => True) c3 ((clL g t (i + 1)).map toR) ∧ Below gd w2 z3) := ⟨by
            rw [HPL.out, HCL.out]
            exact ⟨HS2.out, H3.out, d35.1, d40.1, HB4.out⟩⟩
          clear h12 h14 d34 d35 d39 d40 hC H2 RP RC GX AP IX GN BG HPN H3 HBW HB4
          go_wp2_with fail
          go_roundw
          case rel => exact ⟨i + 1, by omega, by go_num, s2, rfl, c2, c3, H4⟩
          case measure => simp [intOf]; omega
    · obtain rfl : i = m := by omega
      have d1 : decide (i < i) = false := decide_eq_false (by omega)
      have H1 := Aside0.mk H.out.2
      clear hlt hi H
      go_wp2_with (first | (refine wpList_load_row_g 58 (.tmp 10) rfl gd rfl rfl 58 #[.int .u32 tk, .int .u32 hs, vP, vC] (0, 0) _ (H1.out.1.get (i := 0) rfl) Try.underlying58 rfl (rdelta_info _ _ _ _) ?_) | (refine wpList_store_row rfl 58 (.tmp 8) (.tmp 46) rfl B #[.int .u32 tk, .int .u32 hs, vP, vC] rfl rfl 58 _ (H1.out.1.get (i := 1) rfl) (rdelta_info _ _ _ _) rfl (delta_one _ _ H1.out.2.1 H1.out.2.2.1) ?_))
      have H9 := Aside0.mk (H1.out.1.setRow (i := 1) rfl #[.int .u32 tk, .int .u32 hs, vP, vC])
      have hgB := H1.out.1.ge (i := 0) rfl
      have r1 := Kd.R_grown2 H1.out.2.1 rfl (grown_setRow wr B #[.int .u32 tk, .int .u32 hs, vP, vC]) (fun k hk => by cases hk; exact Kd.R_ne H1.out.2.1 (H1.out.1.get (i := 1) rfl) (by decide))
      have r2 := Kd.R_grown2 H1.out.2.2.1 rfl (grown_setRow wr B #[.int .u32 tk, .int .u32 hs, vP, vC]) (fun k hk => by cases hk; exact Kd.R_ne H1.out.2.2.1 (H1.out.1.get (i := 1) rfl) (by decide))
      refine bodyPost_ret (results_cell_row rfl _ _ B _ #[.int .u32 tk, .int .u32 hs, vP, vC] (0, 0) _ rfl (H9.out.get (i := 1) rfl) Try.underlying58 rfl (rdelta_info _ _ _ _)) rfl ?_
      rw [HBE.out, HG.out, HHS.out]
      obtain ⟨A1, c1, rfl, l1, k1⟩ := Kd.R_reads r1
      obtain ⟨A2, c2, rfl, l2, k2⟩ := Kd.R_reads r2
      exact ⟨_, rfl, ⟨A1, c1, A2, c2, rfl, l1, l2, k1, k2⟩, H9.out.bel⟩
end Go.Proofs.Ytkhlalpkkmjfnaa

namespace Go.Proofs.Ytkhlalpkkmjfnaa
open Go.RowKit Go.Proofs.YtkhlalpkkmjfnaaW.PrintWords Go.Proofs.YtkhlalpkkmjfnaaW.PrintLast Go.Proofs.YtkhlalpkkmjfnaaW.PrintMore
set_option linter.unusedVariables false

/-- A fill: the operation that makes the variable, the store, the operation that told the value. -/
abbrev Fill := Nat × Nat × Nat
def fillsOk (ops : Array Oper) (fl : List Fill) : Bool :=
  fl.all fun f => (match ops[f.2.1]? with | some o => depOn o f.1 && depOn o f.2.2 && o.guard.isNone | none => false) && (match ops[f.1]? with | some o => o.guard.isNone | none => false) && decide (f.1 < ops.size) && decide (f.2.1 < ops.size) && decide (f.1 ≠ f.2.1) && decide (f.2.2 ≠ f.2.1) && decide (f.2.2 ≠ f.1) &&
    fl.all fun f' => (f.1 == f'.1) == (f.2.1 == f'.2.1) && (f.1 == f'.1) == (f == f') && f.1 != f'.2.1 && f.1 != f'.2.2 && f.2.1 != f'.2.2
structure FillAt (ops : Array Oper) (fl : List Fill) (f : Fill) : Prop where
  dep : ∀ o, ops[f.2.1]? = some o → depOn o f.1 = true ∧ depOn o f.2.2 = true ∧ o.guard = none
  free : ∀ o, ops[f.1]? = some o → o.guard = none
  lt : f.1 < ops.size ∧ f.2.1 < ops.size
  one : f.1 ≠ f.2.1 ∧ f.2.2 ≠ f.2.1 ∧ f.2.2 ≠ f.1
  two : ∀ f' ∈ fl, (f.1 = f'.1 ↔ f.2.1 = f'.2.1) ∧ (f.1 = f'.1 ↔ f = f') ∧ f.1 ≠ f'.2.1 ∧ f.1 ≠ f'.2.2 ∧ f.2.1 ≠ f'.2.2
theorem fillAt {ops : Array Oper} {fl : List Fill} (h : fillsOk ops fl = true) {f : Fill} (hf : f ∈ fl) : FillAt ops fl f := by
  have := List.all_eq_true.1 h f hf
  simp only [Bool.and_eq_true, decide_eq_true_eq] at this
  obtain ⟨⟨⟨⟨⟨⟨⟨h1, h2⟩, h3⟩, h4⟩, h5⟩, h6⟩, h7⟩, h8⟩ := this
  refine ⟨fun o ho => ?_, fun o ho => ?_, ⟨h3, h4⟩, ⟨h5, h6, h7⟩, fun f' hf' => ?_⟩
  · rw [ho] at h1
    simp only [Bool.and_eq_true, Option.isNone_iff_eq_none] at h1
    exact ⟨h1.1.1, h1.1.2, h1.2⟩
  · rw [ho] at h2
    simpa using h2
  · have := List.all_eq_true.1 h8 f' hf'
    simp only [Bool.and_eq_true, bne_iff_ne, ne_eq, beq_iff_eq] at this
    obtain ⟨⟨⟨⟨a, b⟩, c⟩, d⟩, e⟩ := this
    refine ⟨?_, ?_, c, d, e⟩
    · have := a
      constructor
      · intro hh; simpa [hh] using this
      · intro hh; simpa [hh] using this
    · have := b
      constructor
      · intro hh; simpa [hh] using this
      · intro hh; rw [hh]
def StabX (B : Nat) (Zo : Obj) : List (World → Value → Prop) → Prop
  | [] => True
  | p :: l => (∀ F w w' v, Fills B Zo F w w' → p w v → p w' v) ∧ StabX B Zo l
theorem StabX.at_ {B : Nat} {Zo : Obj} : ∀ (l : List (World → Value → Prop)) (i : Nat), StabX B Zo l → ∀ F w w' v, Fills B Zo F w w' → Vat l i w v → Vat l i w' v
  | [], i, _ => by
    have : Vat [] i = fun _ _ => True := by simp [Vat]
    rw [this]; exact fun _ _ _ _ _ h => h
  | p :: l, 0, h => h.1
  | p :: l, i + 1, h => by
    have := StabX.at_ l i h.2
    unfold Vat at this ⊢
    rw [List.getD_cons_succ]; exact this
def HopX (P : Program) (ops : Array Oper) (a0 : Act) (yv : Nat → Option Bool) (W : World) (fl : List Fill) (Z : Array Value) (T : TypeId) (Vl : List (World → Value → Prop)) (i : Nat) (o : Oper) : Prop :=
  match fl.find? (fun f => f.2.1 == i) with
  | some f => ∀ (vs : Nat → Value) w g cur cs, Below W.heap.size W w → (∀ j, depOn o j = true → Vat Vl j w (vs j)) → vs f.1 = .pointer (some ⟨g, 0, none⟩) → vs f.2.2 = .agg cs → w.heap[g]? = some (.cells cur T (0, 0)) → cur.size = Z.size → runs P o (rho ops a0 (depOn o) vs) w (fun _ w' => w' = w.setRow g cs)
  | none => match fl.find? (fun f => f.1 == i) with
    | some f => ∀ (vs : Nat → Value) w, runs P o (rho ops a0 (depOn o) vs) w (fun v w' => v = .pointer (some ⟨w.heap.size, 0, none⟩) ∧ w' = w.alloc (.cells Z T))
    | none => ∀ (vs : Nat → Value) w, Below W.heap.size W w → (∀ j, depOn o j = true → Vat Vl j w (vs j)) → if wants yv o = true then runs P o (rho ops a0 (depOn o) vs) w (fun v w' => Below w.heap.size w w' ∧ Vat Vl i w' v) else Vat Vl i w undef
def HopXAll (P : Program) (ops : Array Oper) (a0 : Act) (yv : Nat → Option Bool) (W : World) (fl : List Fill) (Z : Array Value) (T : TypeId) (Vl : List (World → Value → Prop)) : Nat → List Oper → Prop
  | _, [] => True
  | i, o :: l => HopX P ops a0 yv W fl Z T Vl i o ∧ HopXAll P ops a0 yv W fl Z T Vl (i + 1) l
theorem HopXAll.at_ {P : Program} {ops : Array Oper} {a0 : Act} {yv : Nat → Option Bool} {W : World} {fl : List Fill} {Z : Array Value} {T : TypeId} {Vl : List (World → Value → Prop)} : ∀ (l : List Oper) (k i : Nat) (o : Oper), HopXAll P ops a0 yv W fl Z T Vl k l → l[i]? = some o → HopX P ops a0 yv W fl Z T Vl (k + i) o
  | [], k, i, o, _, h => by simp at h
  | x :: l, k, 0, o, h, ho => by
    obtain rfl : x = o := by simpa using ho
    exact h.1
  | x :: l, k, i + 1, o, h, ho => by
    have := HopXAll.at_ l (k + 1) i o h.2 (by simpa using ho)
    rw [show k + 1 + i = k + (i + 1) by omega] at this
    exact this
theorem region_fills {P : Program} {ops : Array Oper} {Q : Exit → Act → World → Prop} {a0 : Act} {id : Nat} {W : World} (fl : List Fill) (Z : Array Value) (T : TypeId) (Vl : List (World → Value → Prop)) (yv : Nat → Option Bool) (D : List (Nat × Option Tmp)) (G : List Nat)
    (hm : P.follows .mixedOrders = true) (hok : regionOk ops a0.tmps.size = true) (hD : (List.range ops.size).map (fun i => (i, dstOf ops i)) = D) (hG : (ops.all fun o => match o.guard with | none => true | some (j, _) => G.contains j) = true) (hfl : fillsOk ops fl = true)
    (hyv : ∀ j ∈ G, ∀ w v, Vat Vl j w v → boolOf v = yv j)
    (hst : StabX W.heap.size (.cells Z T (0, 0)) Vl) (hVt : ∀ f ∈ fl, (∀ w v, Vat Vl f.1 w v) ∧ ∀ w v, Vat Vl f.2.1 w v) (hagg : ∀ f ∈ fl, ∀ w v, Vat Vl f.2.2 w v → ∃ cs, v = .agg cs)
    (hop : HopXAll P ops a0 yv W fl Z T Vl 0 ops.toList)
    (hend : ∀ (vs : Nat → Value) w, Below W.heap.size W w → (∀ i, i < ops.size → Vat Vl i w (vs i)) → (∀ f ∈ fl, ∃ g cs, vs f.1 = .pointer (some ⟨g, 0, none⟩) ∧ W.heap.size ≤ g ∧ vs f.2.2 = .agg cs ∧ w.heap[g]? = some (.cells cs T (0, 0))) → (∀ f ∈ fl, ∀ f' ∈ fl, f.1 ≠ f'.1 → vs f.1 ≠ vs f'.1) → Q .normal (putAll vs D a0) w) : (Code.region id ops true).wp P Q a0 W := by
  have hs := fun i => StabX.at_ Vl i hst
  let FI : (Nat → Bool) → (Nat → Value) → World → Fill → Prop := fun L vs w f => L f.1 = true → ∃ g, vs f.1 = .pointer (some ⟨g, 0, none⟩) ∧ W.heap.size ≤ g ∧ g < w.heap.size ∧ (L f.2.1 = true → ∃ cs, vs f.2.2 = .agg cs ∧ w.heap[g]? = some (.cells cs T (0, 0))) ∧ (L f.2.1 = false → w.heap[g]? = some (.cells Z T (0, 0)))
  let I : (Nat → Bool) → (Nat → Value) → World → Prop := fun L vs w => Below W.heap.size W w ∧ (∀ i, L i = true → Vat Vl i w (vs i)) ∧ (∀ f ∈ fl, FI L vs w f) ∧ ∀ f ∈ fl, ∀ f' ∈ fl, f.1 ≠ f'.1 → L f.1 = true → L f'.1 = true → vs f.1 ≠ vs f'.1
  refine region_inv I yv D hm hok hD ?_ ⟨below_drew (Below.refl _ _), (fun i h => by cases h), (fun f _ h => by cases h), fun f _ f' _ _ h => by cases h⟩ ?_ ?_
  · intro i o j b ho hgd L vs w hI hL
    refine hyv j ?_ w _ (hI.2.1 j hL)
    rw [Array.all_eq_true'] at hG
    have := hG o (Array.mem_of_getElem? ho)
    rw [hgd] at this
    exact List.contains_iff_mem.1 this
  · intro i o ho L vs w hLi hcl hdep hI
    obtain ⟨hB, hV, hF, hNe⟩ := hI
    have H := HopXAll.at_ ops.toList 0 i o hop (by rw [Array.getElem?_toList]; exact ho)
    rw [Nat.zero_add] at H
    have hVd : ∀ j, depOn o j = true → Vat Vl j w (vs j) := fun j hj => hV j (hdep j hj)
    have hWle : W.heap.size ≤ w.heap.size := hB.size
    -- a step that only adds memory, of an operation that is no part of a fill but maybe its value
    have grow : ∀ v w', (∀ f ∈ fl, f.1 ≠ i ∧ f.2.1 ≠ i) → Below w.heap.size w w' → Vat Vl i w' v → I (fun k => if k = i then true else L k) (fun k => if k = i then v else vs k) w' := by
      intro v w' hn hb hv
      refine ⟨hB.trans (hb.mono hWle), fun k hk => ?_, fun f hf hL1 => ?_, fun f hf f' hf' hne h1 h2 => ?_⟩
      · by_cases e : k = i
        · subst e; simpa using hv
        · simp only [e, if_false] at hk ⊢
          exact hs k (.cells Z T (0, 0)) w w' _ (Fills.of_below hb) (hV k hk)
      · have hn1 := (hn f hf).1
        have hn2 := (hn f hf).2
        simp only [hn1, hn2, if_false] at hL1 ⊢
        obtain ⟨g, g1, g2, g3, g4, g5⟩ := hF f hf hL1
        refine ⟨g, g1, g2, Nat.lt_of_lt_of_le g3 hb.size, fun h => ?_, fun h => (hb.block g g3).trans (g5 h)⟩
        obtain ⟨cs, k1, k2⟩ := g4 h
        have hne : f.2.2 ≠ i := by
          intro e
          have F := fillAt hfl hf
          obtain ⟨o', ho'⟩ : ∃ o', ops[f.2.1]? = some o' := ⟨_, Array.getElem?_eq_getElem F.lt.2⟩
          have := hcl f.2.1 o' ho' h f.2.2 (F.dep o' ho').2.1
          rw [e, hLi] at this; cases this
        simp only [hne, if_false]
        exact ⟨cs, k1, (hb.block g g3).trans k2⟩
      · simp only [(hn f hf).1, (hn f' hf').1, if_false] at h1 h2 ⊢
        exact hNe f hf f' hf' hne h1 h2
    unfold HopX at H
    cases h1 : fl.find? (fun f => f.2.1 == i) with
    | some f =>
      rw [h1] at H
      have hf := List.mem_of_find?_eq_some h1
      have hfi : f.2.1 = i := by have := List.find?_some h1; simpa using this
      have F := fillAt hfl hf
      have hd := F.dep o (by rw [hfi]; exact ho)
      have hw : wants yv o = true := by unfold wants; rw [hd.2.2]
      rw [if_pos hw]
      obtain ⟨g, g1, g2, g3, _, g5⟩ := hF f hf (hdep _ hd.1)
      have g6 := g5 (by rw [hfi]; exact hLi)
      obtain ⟨cs, hcs⟩ := hagg f hf w _ (hV _ (hdep _ hd.2.1))
      have H1 := H vs w g Z cs hB hVd g1 hcs g6 rfl
      have hfill : Fills W.heap.size (.cells Z T (0, 0)) (.cells cs T (0, 0)) w (w.setRow g cs) := ⟨⟨rfl, rfl, rfl, by simp [World.setRow], fun k hk => by omega⟩, fun k hk => by
        by_cases e : k = g
        · subst e
          exact .inr ⟨g2, g6, setRow_heap _ _ _ _ _ _ g6⟩
        · exact .inl (setRow_other _ _ _ _ e)⟩
      have fin : ∀ v w', w' = w.setRow g cs → I (fun k => if k = i then true else L k) (fun k => if k = i then v else vs k) w' := by
        rintro v w' rfl
        refine ⟨⟨hB.os, hB.tape, hB.output, Nat.le_trans hB.size (by simp [World.setRow]), fun k hk => (setRow_other _ _ _ _ (by omega)).trans (hB.block k hk)⟩, fun k hk => ?_, fun f' hf' hL1 => ?_, fun f' hf' f2 hf2 hne h1 h2 => ?_⟩
        · by_cases e : k = i
          · subst e; rw [← hfi]; exact (hVt f hf).2 _ _
          · simp only [e, if_false] at hk ⊢
            exact hs k _ w _ _ hfill (hV k hk)
        · have F' := fillAt hfl hf'
          have hn1 : f'.1 ≠ i := fun e => (F'.two f hf).2.2.1 (by rw [e, hfi])
          have hn3 : f'.2.2 ≠ i := fun e => (F.two f' hf').2.2.2.2 (by rw [e, hfi])
          simp only [hn1, hn3, if_false] at hL1 ⊢
          obtain ⟨g', a1, a2, a3, a4, a5⟩ := hF f' hf' hL1
          by_cases e : f'.2.1 = i
          · have hff : f = f' := (F.two f' hf').2.1.1 ((F.two f' hf').1.2 (by rw [hfi, e]))
            subst hff
            have hgg : g' = g := by rw [g1] at a1; injection a1 with a1; injection a1 with a1; injection a1 with a1; exact a1.symm
            subst hgg
            simp only [e, if_true]
            refine ⟨g', a1, a2, by simp [World.setRow]; exact a3, fun _ => ⟨cs, hcs, setRow_heap _ _ _ _ _ _ g6⟩, (fun h => by cases h)⟩
          · simp only [e, if_false]
            have hgg : g' ≠ g := by
              intro e2
              subst e2
              have hne : f'.1 ≠ f.1 := fun e3 => e (by have := (F'.two f hf).1.1 e3; rw [this, hfi])
              exact hNe f' hf' f hf hne hL1 (hdep _ hd.1) (by rw [a1, g1])
            refine ⟨g', a1, a2, by simp [World.setRow]; exact a3, fun h => ?_, fun h => (setRow_other _ _ _ _ hgg).trans (a5 h)⟩
            obtain ⟨cs', b1, b2⟩ := a4 h
            exact ⟨cs', b1, (setRow_other _ _ _ _ hgg).trans b2⟩
        · have hn1 : f'.1 ≠ i := fun e => ((fillAt hfl hf').two f hf).2.2.1 (by rw [e, hfi])
          have hn2 : f2.1 ≠ i := fun e => ((fillAt hfl hf2).two f hf).2.2.1 (by rw [e, hfi])
          simp only [hn1, hn2, if_false] at h1 h2 ⊢
          exact hNe f' hf' f2 hf2 hne h1 h2
      unfold runs at H1 ⊢
      split at H1 <;> first | exact fin _ _ H1 | exact Calls.mono H1 (fun e w'' ⟨v, he, hk⟩ => ⟨v, he, fin _ _ hk⟩) | exact H1.elim
    | none =>
      rw [h1] at H
      have hno2 : ∀ f ∈ fl, f.2.1 ≠ i := fun f hf e => by have := List.find?_eq_none.1 h1 f hf; simp [e] at this
      cases h2 : fl.find? (fun f => f.1 == i) with
      | some f =>
        rw [h2] at H
        have hf := List.mem_of_find?_eq_some h2
        have hfi : f.1 = i := by have := List.find?_some h2; simpa using this
        have F := fillAt hfl hf
        have hw : wants yv o = true := by unfold wants; rw [F.free o (by rw [hfi]; exact ho)]
        rw [if_pos hw]
        have H1 := H vs w
        have fin : ∀ v w', (v = .pointer (some ⟨w.heap.size, 0, none⟩) ∧ w' = w.alloc (.cells Z T)) → I (fun k => if k = i then true else L k) (fun k => if k = i then v else vs k) w' := by
          rintro v w' ⟨rfl, rfl⟩
          have hb := below_alloc (Below.refl w.heap.size w) (.cells Z T)
          refine ⟨hB.trans (hb.mono hWle), fun k hk => ?_, fun f' hf' hL1 => ?_, fun f' hf' f2 hf2 hne h1 h2 => ?_⟩
          · by_cases e : k = i
            · subst e; rw [← hfi]; exact (hVt f hf).1 _ _
            · simp only [e, if_false] at hk ⊢
              exact hs k (.cells Z T (0, 0)) w _ _ (Fills.of_below hb) (hV k hk)
          · have hn2 := hno2 f' hf'
            have hn3 : f'.2.2 ≠ i := fun e => (F.two f' hf').2.2.2.1 (by rw [e, hfi])
            simp only [hn2, hn3, if_false] at hL1 ⊢
            by_cases e : f'.1 = i
            · have hff : f = f' := (F.two f' hf').2.1.1 (by rw [hfi, e])
              subst hff
              have hLs : L f.2.1 = false := by
                cases hl : L f.2.1 with
                | false => rfl
                | true =>
                  obtain ⟨o', ho'⟩ : ∃ o', ops[f.2.1]? = some o' := ⟨_, Array.getElem?_eq_getElem F.lt.2⟩
                  have := hcl f.2.1 o' ho' hl f.1 (F.dep o' ho').1
                  rw [hfi, hLi] at this; cases this
              simp only [e, if_true]
              exact ⟨w.heap.size, rfl, hWle, by simp, (fun h => by rw [hLs] at h; cases h), fun _ => blk_new _ _⟩
            · simp only [e, if_false] at hL1 ⊢
              obtain ⟨g', a1, a2, a3, a4, a5⟩ := hF f' hf' hL1
              refine ⟨g', a1, a2, Nat.lt_of_lt_of_le a3 hb.size, fun h => ?_, fun h => (hb.block g' a3).trans (a5 h)⟩
              obtain ⟨cs', b1, b2⟩ := a4 h
              exact ⟨cs', b1, (hb.block g' a3).trans b2⟩
          · by_cases e : f'.1 = i
            · by_cases e2 : f2.1 = i
              · exact absurd (e.trans e2.symm) hne
              · simp only [e, e2, if_true, if_false] at h2 ⊢
                obtain ⟨g', a1, a2, a3, _⟩ := hF f2 hf2 h2
                rw [a1]
                intro e3
                injection e3 with e3; injection e3 with e3; injection e3 with e3
                omega
            · by_cases e2 : f2.1 = i
              · simp only [e, e2, if_true, if_false] at h1 ⊢
                obtain ⟨g', a1, a2, a3, _⟩ := hF f' hf' h1
                rw [a1]
                intro e3
                injection e3 with e3; injection e3 with e3; injection e3 with e3
                omega
              · simp only [e, e2, if_false] at h1 h2 ⊢
                exact hNe f' hf' f2 hf2 hne h1 h2
        unfold runs at H1 ⊢
        split at H1 <;> first | exact fin _ _ H1 | exact Calls.mono H1 (fun e w'' ⟨v, he, hk⟩ => ⟨v, he, fin _ _ hk⟩) | exact H1.elim
      | none =>
        rw [h2] at H
        have hno1 : ∀ f ∈ fl, f.1 ≠ i := fun f hf e => by have := List.find?_eq_none.1 h2 f hf; simp [e] at this
        have H1 := H vs w hB hVd
        by_cases hw : wants yv o = true
        · rw [if_pos hw] at H1 ⊢
          have fin : ∀ v w', (Below w.heap.size w w' ∧ Vat Vl i w' v) → I (fun k => if k = i then true else L k) (fun k => if k = i then v else vs k) w' := fun v w' h => grow v w' (fun f hf => ⟨hno1 f hf, hno2 f hf⟩) h.1 h.2
          unfold runs at H1 ⊢
          split at H1 <;> first | exact fin _ _ H1 | exact Calls.mono H1 (fun e w'' ⟨v, he, hk⟩ => ⟨v, he, fin _ _ hk⟩) | exact H1.elim
        · rw [if_neg hw] at H1 ⊢
          exact grow undef w (fun f hf => ⟨hno1 f hf, hno2 f hf⟩) (Below.refl _ _) H1
  · intro L vs w hall hI
    obtain ⟨hB, hV, hF, hNe⟩ := hI
    refine hend vs w hB (fun i hi => hV i (hall i hi)) (fun f hf => ?_) (fun f hf f' hf' hne => hNe f hf f' hf' hne (hall _ (fillAt hfl hf).lt.1) (hall _ (fillAt hfl hf').lt.1))
    have F := fillAt hfl hf
    obtain ⟨g, g1, g2, _, g4, _⟩ := hF f hf (hall _ F.lt.1)
    obtain ⟨cs, k1, k2⟩ := g4 (hall _ F.lt.2)
    exact ⟨g, cs, g1, g2, k1, k2⟩
end Go.Proofs.Ytkhlalpkkmjfnaa

namespace Go.Proofs.Ytkhlalpkkmjfnaa
open Go.RowKit Go.Proofs.YtkhlalpkkmjfnaaW.PrintWords Go.Proofs.YtkhlalpkkmjfnaaW.PrintLast Go.Proofs.YtkhlalpkkmjfnaaW.PrintMore
set_option linter.unusedVariables false
set_option linter.unusedSimpArgs false

def cntT (t n : Nat) : Nat := (touchL t n).length
theorem cntT_yes {t n : Nat} (h : bitT t n = true) : cntT t (n + 1) = cntT t n + 1 := by unfold cntT; rw [touchL_succ, if_pos h, List.length_append]; rfl
theorem cntT_no {t n : Nat} (h : bitT t n = false) : cntT t (n + 1) = cntT t n := by unfold cntT; rw [touchL_succ, h]; simp
theorem cntT_le (t n : Nat) : cntT t n ≤ n := touchL_len t n
theorem cellB_eight (x : S30) : (cellB true x).length = 8 := by unfold cellB; simp [lowN_length]
theorem dRows_eq (P : List Int) (C : List S30) (h : P.length = C.length) : (dRows P C).length = 9 * P.length := by
  unfold dRows
  induction P generalizing C with
  | nil => simp
  | cons x l ih =>
    cases C with
    | nil => simp at h
    | cons y m =>
      have := ih m (by simpa using h)
      simp only [List.zip_cons_cons, List.map_cons, List.flatten_cons, List.length_append, List.length_cons, dCell, cellB_eight] at this ⊢
      omega
theorem dBytes_len (tk hs : Nat) (f : Nat → S30) (t n : Nat) : (dBytes tk hs (plL t n) (clL f t n)).length = 9 + 9 * cntT t n := by
  unfold dBytes dHead
  simp only [List.length_append, lowN_length, List.length_cons, List.length_nil, dRows_eq _ _ (plcl_len f t n)]
  unfold plL cntT
  rw [List.length_map]

set_option maxRecDepth 100000 in
set_option maxHeartbeats 8000000 in
theorem size_any (f : Nat → S30) (n t : Nat) (w : World) (hn : n ≤ 48) (ht : t < 18446744073709551616) :
    Calls Try.prog 25 #[.int .u64 t, .agg (boardC f n)] w fun e w' => e = .returned (.int .i64 ((9 + 9 * cntT t n : Nat) : Int)) ∧ Below w.heap.size w w' := by
  have HI := fun f m => Aside0.mk (board_info f m)
  have HN := Aside0.mk hn
  have HT := Aside0.mk ht
  have H0 := Aside0.mk ((Hp.start w).alloc (.cells (boardC f n) 34))
  clear hn ht
  go_enter Try.func25, Try.ntmps25
  go_wp2_with (first | (refine wpList_load_row_g 34 (.tmp 3) rfl (w.heap.size) rfl rfl 34 _ (0, 0) _ (H0.out.get (i := 0) rfl) Try.underlying34 rfl (HI _ _).out ?_))
  refine (len_any f n _).mono ?_
  rintro e w1 ⟨rfl, hb1⟩
  have H1 := Aside0.mk (H0.out.call hb1)
  clear hb1 H0
  go_wp2_with fail
  go_loopw [5, 9] (fun v5 v9 wr => ∃ i : Nat, i ≤ n ∧ v9 = .int .i64 i ∧ v5 = .int .i64 ((9 + 9 * cntT t i : Nat) : Int) ∧ Aside0 (Below w.heap.size w wr)) (fun _ v9 _ => n - (intOf v9).toNat)
  case atStart => exact ⟨0, by omega, rfl, rfl, ⟨H1.out.bel⟩⟩
  case round =>
    clear H1
    obtain ⟨i, hi, rfl, rfl, H⟩ := hrel
    by_cases hlt : i < n
    · have d1 : decide (i < n) = true := decide_eq_true hlt
      have hi48 : (i : Int) < n := by omega
      have hi0 : (0 : Int) ≤ i := by omega
      have hn48 : n ≤ 48 := HN.out
      have e1 := shr_div t i HT.out (by omega)
      have hle := cntT_le t i
      cases hb : bitT t i with
      | false =>
        have e2 := bit_no HT.out hb
        have HC := Aside0.mk (cntT_no hb)
        clear hb
        generalize hq : 9 + 9 * cntT t i = q at *
        have hq1 : (q : Int) ≤ 1000 := by omega
        have HQ := Aside0.mk hq
        clear hq hle
        go_wp2_with fail
        go_roundw
        case rel => exact ⟨i + 1, by omega, by go_num, by rw [HC.out, HQ.out], H⟩
        case measure => simp [intOf]; omega
      | true =>
        have e2 := bit_yes HT.out hb
        have HC := Aside0.mk (cntT_yes hb)
        clear hb
        generalize hq : 9 + 9 * cntT t i = q at *
        have hq1 : (q : Int) ≤ 1000 := by omega
        have HQ := Aside0.mk hq
        clear hq hle
        go_wp2_with fail
        go_roundw
        case rel => exact ⟨i + 1, by omega, by go_num, by rw [HC.out]; have := HQ.out; go_num, H⟩
        case measure => simp [intOf]; omega
    · obtain rfl : i = n := by omega
      have d1 : decide (i < i) = false := decide_eq_false (by omega)
      go_wp2_with fail
      go_ret
      exact ⟨rfl, H.out⟩
theorem Cur.set {cur : Array Value} {k i : Nat} {f : Nat → S30} (h : Cur cur k f) (hi : i < k) (x : S30) : Cur ((cur.setIfInBounds (2 * i) (.int .i32 x.f0)).setIfInBounds (2 * i + 1) (.int .u32 x.f1)) k (putF f i x) := by
  intro j hj
  obtain ⟨h0, h1⟩ := h j hj
  have hlt : 2 * i < cur.size := (Array.getElem?_eq_some_iff.1 (h i hi).1).1
  have hlt1 : 2 * i + 1 < cur.size := (Array.getElem?_eq_some_iff.1 (h i hi).2).1
  unfold putF
  by_cases e : j = i
  · subst e
    rw [if_pos rfl]
    exact ⟨by rw [Array.getElem?_setIfInBounds_ne (by omega), Array.getElem?_setIfInBounds_self_of_lt hlt], by rw [Array.getElem?_setIfInBounds_self_of_lt (by simp; exact hlt1)]⟩
  · rw [if_neg e]
    exact ⟨by rw [Array.getElem?_setIfInBounds_ne (by omega), Array.getElem?_setIfInBounds_ne (by omega)]; exact h0, by rw [Array.getElem?_setIfInBounds_ne (by omega), Array.getElem?_setIfInBounds_ne (by omega)]; exact h1⟩
/-- The board behind a step: the places that were touched have others' cells. -/
def nextF (f f2 : Nat → S30) (t m2 : Nat) (i : Nat) : Nat → S30 := fun k => if k < i ∧ bitT t k = true ∧ k < m2 then f2 k else f k
theorem nextF_zero (f f2 : Nat → S30) (t m2 : Nat) : nextF f f2 t m2 0 = f := by funext k; unfold nextF; rw [if_neg (by omega)]
theorem nextF_no {f f2 : Nat → S30} {t m2 i : Nat} (h : ¬ (bitT t i = true ∧ i < m2)) : nextF f f2 t m2 (i + 1) = nextF f f2 t m2 i := by
  funext k
  unfold nextF
  by_cases e : k = i
  · subst e; rw [if_neg (fun hh => h hh.2), if_neg (by omega)]
  · by_cases h2 : k < i ∧ bitT t k = true ∧ k < m2
    · rw [if_pos ⟨by omega, h2.2⟩, if_pos h2]
    · rw [if_neg (fun hh => h2 ⟨by omega, hh.2⟩), if_neg h2]
theorem nextF_yes {f f2 : Nat → S30} {t m2 i : Nat} (h1 : bitT t i = true) (h2 : i < m2) : nextF f f2 t m2 (i + 1) = putF (nextF f f2 t m2 i) i (f2 i) := by
  funext k
  unfold putF
  by_cases e : k = i
  · subst e; rw [if_pos rfl]; unfold nextF; rw [if_pos ⟨by omega, h1, h2⟩]
  · rw [if_neg e]
    unfold nextF
    by_cases h3 : k < i ∧ bitT t k = true ∧ k < m2
    · rw [if_pos ⟨by omega, h3.2⟩, if_pos h3]
    · rw [if_neg (fun hh => h3 ⟨by omega, hh.2⟩), if_neg h3]
theorem OfR.fillsT {b B : Nat} {w w' : World} {tk hs : Int} {P : List Int} {C : List S30} {v : Value} {Zc : Array Value} {F : Obj} {T : TypeId} (h : OfR b w tk hs P C v) (h1 : 5 ≠ T) (h2 : 30 ≠ T) (hf : Fills B (.cells Zc T (0, 0)) F w w') : OfR b w' tk hs P C v := by
  obtain ⟨A, c, A2, c2, e, k1, k2, k3, k4⟩ := h
  exact ⟨A, c, A2, c2, e, k1, k2, R_fills k3 rfl h1 hf, R_fills k4 rfl h2 hf⟩
/-- Two blocks that a region has made and filled. -/
theorem Hp.found2 {B g1 g2 : Nat} {w0 W W1 : World} {o1 o2 : Obj} {L : List (Nat × Obj)} {F : List (World → Prop)} (h : Hp B w0 W L F) (hb : Below W.heap.size W W1) (hg1 : W.heap.size ≤ g1) (ho1 : W1.heap[g1]? = some o1) (hg2 : W.heap.size ≤ g2) (ho2 : W1.heap[g2]? = some o2) (hne : g1 ≠ g2) : Hp B w0 W1 ((g1, o1) :: (g2, o2) :: L) F := by
  have h1 := h.found hb hg2 ho2
  refine ⟨h1.1, fun p hp => ?_, ?_, h1.2.2.2.1, fun φ hφ W' hw => ?_⟩
  · rcases List.mem_cons.1 hp with rfl | hp
    · exact ⟨ho1, Nat.le_trans h.le hg1⟩
    · exact h1.2.1 p hp
  · intro i j p q hi hj he
    have far : ∀ (k : Nat) (r : Nat × Obj), ((g2, o2) :: L)[k]? = some r → r.1 ≠ g1 := by
      intro k r hk
      match k, hk with
      | 0, hk =>
        obtain rfl : (g2, o2) = r := by simpa using hk
        exact fun e => hne e.symm
      | k + 1, hk =>
        have := blk_lt (h.2.1 r (List.mem_of_getElem? (by simpa using hk))).1
        intro e
        omega
    match i, j, hi, hj with
    | 0, 0, _, _ => rfl
    | 0, j + 1, hi, hj =>
      obtain rfl : (g1, o1) = p := by simpa using hi
      exact absurd he.symm (far j q (by simpa using hj))
    | i + 1, 0, hi, hj =>
      obtain rfl : (g1, o1) = q := by simpa using hj
      exact absurd he (far i p (by simpa using hi))
    | i + 1, j + 1, hi, hj => rw [h1.2.2.1 i j p q (by simpa using hi) (by simpa using hj) he]
  · refine h.2.2.2.2 φ hφ W' ⟨(below_zero hb).trans hw.1, fun k hk hn => (hw.2 k (Nat.lt_of_lt_of_le hk hb.size) (fun p hp => ?_)).trans (hb.block k hk)⟩
    rcases List.mem_cons.1 hp with rfl | hp
    · simp only; omega
    · rcases List.mem_cons.1 hp with rfl | hp
      · simp only; omega
      · exact hn p hp
/-- What was told by Of, in memory that holds blocks of other types. -/
theorem Hp.addR {B b : Nat} {w0 W : World} {L : List (Nat × Obj)} {F : List (World → Prop)} {tk hs : Int} {P : List Int} {C : List S30} {v : Value} (h : Hp B w0 W L F) (hr : OfR b W tk hs P C v) (hb : B ≤ b) (hL : ∀ p ∈ L, ∃ cs T, p.2 = .cells cs T (0, 0) ∧ 5 ≠ T ∧ 30 ≠ T) : Hp B w0 W L ((fun X => OfR B X tk hs P C v) :: F) := by
  refine ⟨h.1, h.2.1, h.2.2.1, h.2.2.2.1, fun φ hφ W' hw => ?_⟩
  rcases List.mem_cons.1 hφ with rfl | hφ
  · obtain ⟨A, c, A2, c2, e, h1, h2, h3, h4⟩ := hr
    have key : ∀ {α : Type} {d : Kd α} {e : Nat} {u : Value} {xs : List α}, d.R e W b (fun _ => True) u xs → d.E = [] → (∀ p ∈ L, ∃ cs T, p.2 = .cells cs T (0, 0) ∧ e ≠ T) → d.R e W' B (fun _ => True) u xs := by
      intro α d e u xs hR hE hT
      refine Kd.R_mono (Kd.R_lower (Kd.R_step (Kd.R_bound hR) (fun k hk hlt => hw.2 k hlt (fun p hp e2 => ?_))) hb) (fun _ _ => trivial)
      obtain ⟨_, _, _, q, hq, cells, h6⟩ := hk
      rw [hE] at hq
      obtain rfl := List.mem_singleton.1 hq
      obtain ⟨cs, T, h7, h8⟩ := hT p hp
      have h9 := (h.2.1 p hp).1
      rw [e2, h6, h7] at h9
      simp only [Option.some.injEq, Obj.cells.injEq] at h9
      exact h8 h9.2.1
    exact ⟨A, c, A2, c2, e, h1, h2, key h3 rfl (fun p hp => by obtain ⟨cs, T, a, b, _⟩ := hL p hp; exact ⟨cs, T, a, b⟩), key h4 rfl (fun p hp => by obtain ⟨cs, T, a, _, b⟩ := hL p hp; exact ⟨cs, T, a, b⟩)⟩
  · exact h.2.2.2.2 φ hφ W' hw
end Go.Proofs.Ytkhlalpkkmjfnaa
