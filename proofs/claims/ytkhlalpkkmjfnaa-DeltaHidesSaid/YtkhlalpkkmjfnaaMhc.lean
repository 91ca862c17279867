/- The parts of this proof, one behind the other: contracts of the functions, plain laws, the walk. -/
import Derived.Test.YtkhlalpkkmjfnaaMhb
import Derived.Deep.RegionHeld3
namespace Go.Proofs.Ytkhlalpkkmjfnaa
open Go.RowKit Go.Proofs.YtkhlalpkkmjfnaaW.PrintWords Go.Proofs.YtkhlalpkkmjfnaaW.PrintLast Go.Proofs.YtkhlalpkkmjfnaaW.PrintMore
set_option linter.unusedVariables false
set_option linter.unusedSimpArgs false

/-- A block that isn't the pen's. -/
theorem PPut.blk {w w' : World} {base g gc : Nat} {v v' : Value} {p' : List Int} {o : Obj} (h : PPut w w' base g v p' v') (hb : w.heap[gc]? = some o) (hne : gc ≠ g) (hv : v.ownBlock ≠ some gc) : w'.heap[gc]? = some o ∧ v'.ownBlock ≠ some gc := by
  refine ⟨h.2.1.blk hb hne (fun e => hv e.symm), fun e => ?_⟩
  rcases h.2.2.1 with h1 | h1 | ⟨b, h1, h2⟩
  · rw [h1] at e; cases e
  · exact hv (h1 ▸ e)
  · rw [h1] at e
    have := blk_lt hb
    injection e; omega

set_option maxRecDepth 100000 in
set_option maxHeartbeats 8000000 in
theorem dbytes_no (tk hs : Int) (A A2 : Option Addr) (n c m c2 : Nat) (P : List Int) (C : List S30) (w : World) (hp : (Kd.int .u8).C w A n P) (hc : n ≤ c) (hC : k30.C w A2 m C) (hc2 : m ≤ c2) (hP : Bytes P) (hl : n < 4611686018427387904) (hr : rightB P m = false) :
    Calls Try.prog 14 #[.agg #[.int .u32 tk, .int .u32 hs, .slice A n c, .slice A2 m c2]] w fun e w' => e = .returned (.slice none 0 0) ∧ Below w.heap.size w w' := by
  obtain rfl := hp.1
  obtain rfl := hC.1
  have H0 := Aside0.mk ((Hp.start w).alloc (.cells #[.int .u32 tk, .int .u32 hs, .slice A P.length c, .slice A2 C.length c2] 41))
  have hb0 := below_alloc (Below.refl w.heap.size w) (.cells #[.int .u32 tk, .int .u32 hs, .slice A P.length c, .slice A2 C.length c2] 41)
  have KEY := Aside0.mk (right_any tk hs A A2 c c2 P C _ (Kd.C_below hp hb0) hc (Kd.C_below hC hb0) hc2 hP hl)
  rw [hr] at KEY
  generalize P.length = n at *
  generalize C.length = m at *
  clear hp hC hb0 hP hl hr hc hc2
  go_enter Try.func14, Try.ntmps14
  go_wp2_with (first | (refine wpList_load_row_g 41 (.tmp 1) rfl (w.heap.size) rfl rfl 41 _ (0, 0) _ (H0.out.get (i := 0) rfl) Try.underlying41 rfl (delta_info _ _ _ _) ?_))
  refine KEY.out.mono ?_
  rintro e w1 ⟨rfl, hb1⟩
  have H1 := Aside0.mk (H0.out.call hb1)
  clear hb1 KEY H0
  go_wp2_with fail
  go_ret
  exact ⟨rfl, H1.out.bel⟩

set_option maxRecDepth 100000 in
set_option maxHeartbeats 8000000 in
theorem dbytes_yes (tk hs : Nat) (A A2 : Option Addr) (n c m c2 : Nat) (P : List Int) (C : List S30) (w : World) (hp : (Kd.int .u8).C w A n P) (hc : n ≤ c) (hC : k30.C w A2 m C) (hc2 : m ≤ c2) (hr : rightB P m = true) (htk : tk < 4294967296) (hhs : hs < 4294967296) (hU : ∀ x ∈ C, U32 x.f1) :
    Calls Try.prog 14 #[.agg #[.int .u32 tk, .int .u32 hs, .slice A n c, .slice A2 m c2]] w fun e w' => ∃ v, e = .returned v ∧ (Kd.int .u8).R 5 w' w.heap.size (fun _ => True) v (dBytes tk hs P C) ∧ Below w.heap.size w w' := by
  obtain ⟨hr1, hr2⟩ : risB (-1) P = true ∧ P.length = m := by
    unfold rightB at hr
    simp only [Bool.and_eq_true, beq_iff_eq] at hr
    exact hr
  obtain ⟨q1, q2, q3⟩ := risB_le (by omega) (by omega) hr1
  obtain rfl := hp.1
  have hCl := hC.1
  have hn48 : P.length ≤ 48 := by omega
  have HPC : Aside0 (P.length = m ∧ C.length = m ∧ m ≤ 48) := ⟨hr2, hCl, by omega⟩
  have hb0 := below_alloc (Below.refl w.heap.size w) (.cells #[.int .u32 tk, .int .u32 hs, .slice A P.length c, .slice A2 m c2] 41)
  have KEY := Aside0.mk (by have := right_any tk hs A A2 c c2 P C _ (Kd.C_below hp hb0) hc (by rw [hCl]; exact Kd.C_below hC hb0) (by rw [hCl]; exact hc2) q2 (by omega); rw [hCl, hr] at this; exact this)
  have HTK := Aside0.mk htk
  have HHS := Aside0.mk hhs
  have HU := Aside0.mk hU
  have HB := Aside0.mk q2
  have HF : Aside0 (∀ z, Below w.heap.size w z → (Kd.int .u8).C z A P.length P ∧ k30.C z A2 m C) := ⟨fun z hb => ⟨Kd.C_below hp hb, Kd.C_below hC hb⟩⟩
  have H0 := Aside0.mk ((Hp.start w).alloc (.cells #[.int .u32 tk, .int .u32 hs, .slice A P.length c, .slice A2 m c2] 41))
  generalize hn : P.length = n at *
  have HNP := Aside0.mk hn
  clear hp hC hb0 hc hc2 hr hr1 hr2 q1 q2 q3 htk hhs hU hCl hn
  go_enter Try.func14, Try.ntmps14
  go_wp2_with (first | (refine wpList_load_row_g 41 (.tmp 1) rfl (w.heap.size) rfl rfl 41 _ (0, 0) _ (H0.out.get (i := 0) rfl) Try.underlying41 rfl (delta_info _ _ _ _) ?_))
  refine KEY.out.mono ?_
  rintro e V0 ⟨rfl, hb1⟩
  have H1 := Aside0.mk (H0.out.call hb1)
  clear hb1 KEY H0
  go_wp2_with fail
  obtain ⟨gd, hgd⟩ : ∃ gd, w.heap.size = gd := ⟨_, rfl⟩
  rw [hgd] at H1
  rw [hgd]
  obtain ⟨gp, hgp⟩ : ∃ gp, V0.heap.size = gp := ⟨_, rfl⟩
  rw [hgp]
  have HGD := Aside0.mk hgd
  have GD : Aside0 (gd < gp) := ⟨by rw [← hgp]; exact H1.out.lt (i := 0) rfl⟩
  have hP0 : Pn (V0.alloc (.cells #[.slice none 0 0] 81)) gp gp [] (.slice none 0 0) := ⟨by rw [← hgp]; exact blk_new _ _, Kd.R_nil _ _ _ _ _⟩
  have HP0 := Aside0.mk hP0
  have HB0 : Aside0 (Below gp V0 (V0.alloc (.cells #[.slice none 0 0] 81))) := ⟨by rw [← hgp]; exact below_alloc (Below.refl _ _) _⟩
  have HV0 : Aside0 (V0.heap.size = gp) := ⟨hgp⟩
  have HG0 := Aside0.mk (H1.out.get (i := 0) rfl)
  have HF0 : Aside0 (∀ z, Below gp V0 z → (Kd.int .u8).C z A n P ∧ k30.C z A2 m C) := ⟨fun z hz => HF.out z (by rw [HGD.out]; exact H1.out.bel.trans (hz.mono (Nat.le_of_lt GD.out)))⟩
  have IX : Aside0 (IntKind.u8.wrap (n : Int) = ((n % 256 : Nat) : Int)) := ⟨by rw [IntWalk.u8_in _ (by have := HPC.out; omega)]; have := HPC.out; omega⟩
  clear hP0 hgd hgp HF
  generalize hV : V0.alloc (.cells #[.slice none 0 0] 81) = V1 at *
  clear hV
  refine regionS (W := V1)
    [fun _ v => v = .pointer (some ⟨gd, 0, none⟩),
     fun _ v => v = .int .u32 tk,
     fun _ v => v = .pointer (some ⟨gp, 0, none⟩),
     fun _ v => v = .pointer (some ⟨gd, 1, none⟩),
     fun _ v => v = .int .u32 hs,
     fun _ v => v = .pointer (some ⟨gp, 0, none⟩),
     fun _ v => v = .pointer (some ⟨gd, 2, none⟩),
     fun _ v => v = .slice A n c,
     fun _ v => v = .int .i64 n,
     fun _ v => v = .int .u8 ((n % 256 : Nat) : Int),
     fun _ v => v = .pointer (some ⟨gp, 0, none⟩)]
    [2, 5, 10]
    (fun t => match t with | 0 => fun (rs : List Value) (w : World) => ∃ v, Pn w gp gp [] v | 1 => fun (rs : List Value) (w : World) => ∃ v, Pn w gp gp (lowN tk 4) v | 2 => fun (rs : List Value) (w : World) => ∃ v, Pn w gp gp (lowN tk 4 ++ lowN hs 4) v | 3 => fun (rs : List Value) (w : World) => ∃ v, Pn w gp gp (dHead tk hs n) v | _ => fun _ _ => False)
    (fun _ _ _ => True) (fun w => Below gp V0 w ∧ gp ≤ w.heap.size)
    (fun j =>  none)
    [(0, some 9), (1, some 10), (2, some 11), (3, some 12), (4, some 13), (5, some 14), (6, some 15), (7, some 16), (8, some 17), (9, some 18), (10, some 19)]
    []
    (by kernel_rfl) (by kernel_rfl) (by kernel_rfl) (by kernel_rfl) (by kernel_rfl) ?z4_1c ?z4_1i ?z4_1b ?z4_1d ?z4_1g ⟨?z4_1t0, ?z4_1t1, ?z4_1t2, ?z4_1t3, ?z4_1t4, ?z4_1t5, ?z4_1t6, ?z4_1t7, ?z4_1t8, ?z4_1t9, ?z4_1t10, trivial⟩ ⟨?z4_1o0, ?z4_1o1, ?z4_1o2, ?z4_1o3, ?z4_1o4, ?z4_1o5, ?z4_1o6, ?z4_1o7, ?z4_1o8, ?z4_1o9, ?z4_1o10, trivial⟩ ?z4_1e
  case z4_1c => exact ⟨HB0.out.trans (below_drew (Below.refl _ _)), by have := blk_lt HP0.out.1; exact Nat.le_of_lt this⟩
  case z4_1i => exact ⟨_, HP0.out⟩
  case z4_1b => intro w w' hb h; exact ⟨h.1.trans (hb.mono h.2), Nat.le_trans h.2 hb.size⟩
  case z4_1d =>
    intro t rs w w' hb h
    match t, h with
    | 0, h => (replace h : ∃ v, Pn w gp gp [] v := h); show ∃ v, Pn w' gp gp [] v; (obtain ⟨v, h⟩ := h; exact ⟨v, h.below hb⟩)
    | 1, h => (replace h : ∃ v, Pn w gp gp (lowN tk 4) v := h); show ∃ v, Pn w' gp gp (lowN tk 4) v; (obtain ⟨v, h⟩ := h; exact ⟨v, h.below hb⟩)
    | 2, h => (replace h : ∃ v, Pn w gp gp (lowN tk 4 ++ lowN hs 4) v := h); show ∃ v, Pn w' gp gp (lowN tk 4 ++ lowN hs 4) v; (obtain ⟨v, h⟩ := h; exact ⟨v, h.below hb⟩)
    | 3, h => (replace h : ∃ v, Pn w gp gp (dHead tk hs n) v := h); show ∃ v, Pn w' gp gp (dHead tk hs n) v; (obtain ⟨v, h⟩ := h; exact ⟨v, h.below hb⟩)
    | _ + 4, h => exact h.elim
  case z4_1g =>
    intro j hj; cases hj
  case z4_1t0 => exact StabS.const _ _ _ _
  case z4_1t1 => exact StabS.const _ _ _ _
  case z4_1t2 => exact StabS.const _ _ _ _
  case z4_1t3 => exact StabS.const _ _ _ _
  case z4_1t4 => exact StabS.const _ _ _ _
  case z4_1t5 => exact StabS.const _ _ _ _
  case z4_1t6 => exact StabS.const _ _ _ _
  case z4_1t7 => exact StabS.const _ _ _ _
  case z4_1t8 => exact StabS.const _ _ _ _
  case z4_1t9 => exact StabS.const _ _ _ _
  case z4_1t10 => exact StabS.const _ _ _ _
  case z4_1o0 =>
    intro vs w t hC ht1 ht2 hS hV
    rw [if_pos (by kernel_rfl)]
    generalize hρ : rho _ _ _ vs = ρ
    have e1 : ρ (.tmp 1) = .pointer (some ⟨gd, 0, none⟩) := by rw [← hρ]; kernel_rfl
    clear hρ hV
    refine runs_val (v := .pointer (some ⟨gd, 0, none⟩)) (w' := w) ?_ ⟨Below.refl _ _, rfl⟩
    clear ht1 ht2 hS hC
    go_simp <;> (first | exact IntWalk.u64_in _ (by omega) | exact IntWalk.u32_in _ (by omega) | exact IntWalk.u16_in _ (by omega) | exact IntWalk.u8_in _ (by omega) | exact IntWalk.i64_in _ (by omega) | skip)
  case z4_1o1 =>
    intro vs w t hC ht1 ht2 hS hV
    rw [if_pos (by kernel_rfl)]
    generalize hρ : rho _ _ _ vs = ρ
    have d9 : (vs 0) = .pointer (some ⟨gd, 0, none⟩) := hV 0 (by kernel_rfl)
    have e9 : ρ (.tmp 9) = vs 0 := by rw [← hρ]; kernel_rfl
    rw [d9] at e9; clear d9
    clear hρ hV
    have c0 := blk_cell ((hC.1.block gd GD.out).trans HG0.out) 0
    refine runs_val (v := .int .u32 tk) (w' := w) ?_ ⟨Below.refl _ _, rfl⟩
    clear ht1 ht2 hS hC
    go_simp
  case z4_1o2 =>
    intro vs w hC hS hV
    replace hS : ∃ v, Pn w gp gp [] v := hS
    rw [if_pos (by kernel_rfl)]
    generalize hρ : rho _ _ _ vs = ρ
    have e3 : ρ (.tmp 3) = .pointer (some ⟨gp, 0, none⟩) := by rw [← hρ]; kernel_rfl
    have d10 : (vs 1) = .int .u32 tk := hV 1 (by kernel_rfl)
    have e10 : ρ (.tmp 10) = vs 1 := by rw [← hρ]; kernel_rfl
    rw [d10] at e10; clear d10
    have ef38 : ρ (.func 38) = .func (.func 38) #[] #[] := by rw [← hρ]; rfl
    clear hρ hV
    obtain ⟨v, hp⟩ := hS
    refine runs_call (f := 38) (args := #[.pointer (some ⟨gp, 0, none⟩), .int .u32 tk]) (w' := w) ?_ ?_
    · go_simp
    · refine (pword_any gp gp [] v tk HTK.out w hp (Nat.le_refl _) (by simp)).mono ?_
      rintro e w5 ⟨v', rfl, h⟩
      exact ⟨_, rfl, ⟨hC.1.trans h.2.2.2, Nat.le_trans hC.2 h.2.1.1⟩, trivial, rfl, ⟨v', h.1⟩⟩
  case z4_1o3 =>
    intro vs w t hC ht1 ht2 hS hV
    rw [if_pos (by kernel_rfl)]
    generalize hρ : rho _ _ _ vs = ρ
    have e1 : ρ (.tmp 1) = .pointer (some ⟨gd, 0, none⟩) := by rw [← hρ]; kernel_rfl
    clear hρ hV
    refine runs_val (v := .pointer (some ⟨gd, 1, none⟩)) (w' := w) ?_ ⟨Below.refl _ _, rfl⟩
    clear ht1 ht2 hS hC
    go_simp <;> (first | exact IntWalk.u64_in _ (by omega) | exact IntWalk.u32_in _ (by omega) | exact IntWalk.u16_in _ (by omega) | exact IntWalk.u8_in _ (by omega) | exact IntWalk.i64_in _ (by omega) | skip)
  case z4_1o4 =>
    intro vs w t hC ht1 ht2 hS hV
    rw [if_pos (by kernel_rfl)]
    generalize hρ : rho _ _ _ vs = ρ
    have d12 : (vs 3) = .pointer (some ⟨gd, 1, none⟩) := hV 3 (by kernel_rfl)
    have e12 : ρ (.tmp 12) = vs 3 := by rw [← hρ]; kernel_rfl
    rw [d12] at e12; clear d12
    clear hρ hV
    have c0 := blk_cell ((hC.1.block gd GD.out).trans HG0.out) 1
    refine runs_val (v := .int .u32 hs) (w' := w) ?_ ⟨Below.refl _ _, rfl⟩
    clear ht1 ht2 hS hC
    go_simp
  case z4_1o5 =>
    intro vs w hC hS hV
    replace hS : ∃ v, Pn w gp gp (lowN tk 4) v := hS
    rw [if_pos (by kernel_rfl)]
    generalize hρ : rho _ _ _ vs = ρ
    have d11 : (vs 2) = .pointer (some ⟨gp, 0, none⟩) := hV 2 (by kernel_rfl)
    have e11 : ρ (.tmp 11) = vs 2 := by rw [← hρ]; kernel_rfl
    rw [d11] at e11; clear d11
    have d13 : (vs 4) = .int .u32 hs := hV 4 (by kernel_rfl)
    have e13 : ρ (.tmp 13) = vs 4 := by rw [← hρ]; kernel_rfl
    rw [d13] at e13; clear d13
    have ef38 : ρ (.func 38) = .func (.func 38) #[] #[] := by rw [← hρ]; rfl
    clear hρ hV
    obtain ⟨v, hp⟩ := hS
    refine runs_call (f := 38) (args := #[.pointer (some ⟨gp, 0, none⟩), .int .u32 hs]) (w' := w) ?_ ?_
    · go_simp
    · refine (pword_any gp gp (lowN tk 4) v hs HHS.out w hp (Nat.le_refl _) (by rw [lowN_length]; omega)).mono ?_
      rintro e w5 ⟨v', rfl, h⟩
      exact ⟨_, rfl, ⟨hC.1.trans h.2.2.2, Nat.le_trans hC.2 h.2.1.1⟩, trivial, rfl, ⟨v', h.1⟩⟩
  case z4_1o6 =>
    intro vs w t hC ht1 ht2 hS hV
    rw [if_pos (by kernel_rfl)]
    generalize hρ : rho _ _ _ vs = ρ
    have e1 : ρ (.tmp 1) = .pointer (some ⟨gd, 0, none⟩) := by rw [← hρ]; kernel_rfl
    clear hρ hV
    refine runs_val (v := .pointer (some ⟨gd, 2, none⟩)) (w' := w) ?_ ⟨Below.refl _ _, rfl⟩
    clear ht1 ht2 hS hC
    go_simp <;> (first | exact IntWalk.u64_in _ (by omega) | exact IntWalk.u32_in _ (by omega) | exact IntWalk.u16_in _ (by omega) | exact IntWalk.u8_in _ (by omega) | exact IntWalk.i64_in _ (by omega) | skip)
  case z4_1o7 =>
    intro vs w t hC ht1 ht2 hS hV
    rw [if_pos (by kernel_rfl)]
    generalize hρ : rho _ _ _ vs = ρ
    have d15 : (vs 6) = .pointer (some ⟨gd, 2, none⟩) := hV 6 (by kernel_rfl)
    have e15 : ρ (.tmp 15) = vs 6 := by rw [← hρ]; kernel_rfl
    rw [d15] at e15; clear d15
    clear hρ hV
    have c0 := blk_cell ((hC.1.block gd GD.out).trans HG0.out) 2
    refine runs_val (v := .slice A n c) (w' := w) ?_ ⟨Below.refl _ _, rfl⟩
    clear ht1 ht2 hS hC
    go_simp
  case z4_1o8 =>
    intro vs w t hC ht1 ht2 hS hV
    rw [if_pos (by kernel_rfl)]
    generalize hρ : rho _ _ _ vs = ρ
    have d16 : (vs 7) = .slice A n c := hV 7 (by kernel_rfl)
    have e16 : ρ (.tmp 16) = vs 7 := by rw [← hρ]; kernel_rfl
    rw [d16] at e16; clear d16
    clear hρ hV
    refine runs_val (v := .int .i64 n) (w' := w) ?_ ⟨Below.refl _ _, rfl⟩
    clear ht1 ht2 hS hC
    go_simp <;> (first | exact IntWalk.u64_in _ (by omega) | exact IntWalk.u32_in _ (by omega) | exact IntWalk.u16_in _ (by omega) | exact IntWalk.u8_in _ (by omega) | exact IntWalk.i64_in _ (by omega) | skip)
  case z4_1o9 =>
    intro vs w t hC ht1 ht2 hS hV
    rw [if_pos (by kernel_rfl)]
    generalize hρ : rho _ _ _ vs = ρ
    have d17 : (vs 8) = .int .i64 n := hV 8 (by kernel_rfl)
    have e17 : ρ (.tmp 17) = vs 8 := by rw [← hρ]; kernel_rfl
    rw [d17] at e17; clear d17
    clear hρ hV
    have ix := IX.out
    refine runs_val (v := .int .u8 ((n % 256 : Nat) : Int)) (w' := w) ?_ ⟨Below.refl _ _, rfl⟩
    clear ht1 ht2 hS hC
    rw [← ix]
    clear ix
    go_simp
  case z4_1o10 =>
    intro vs w hC hS hV
    replace hS : ∃ v, Pn w gp gp (lowN tk 4 ++ lowN hs 4) v := hS
    rw [if_pos (by kernel_rfl)]
    generalize hρ : rho _ _ _ vs = ρ
    have d14 : (vs 5) = .pointer (some ⟨gp, 0, none⟩) := hV 5 (by kernel_rfl)
    have e14 : ρ (.tmp 14) = vs 5 := by rw [← hρ]; kernel_rfl
    rw [d14] at e14; clear d14
    have d18 : (vs 9) = .int .u8 ((n % 256 : Nat) : Int) := hV 9 (by kernel_rfl)
    have e18 : ρ (.tmp 18) = vs 9 := by rw [← hρ]; kernel_rfl
    rw [d18] at e18; clear d18
    have ef39 : ρ (.func 39) = .func (.func 39) #[] #[] := by rw [← hρ]; rfl
    clear hρ hV
    obtain ⟨v, hp⟩ := hS
    refine runs_call (f := 39) (args := #[.pointer (some ⟨gp, 0, none⟩), .int .u8 ((n % 256 : Nat) : Int)]) (w' := w) ?_ ?_
    · go_simp
    · refine (pbyte_any gp gp (lowN tk 4 ++ lowN hs 4) v _ w hp (Nat.le_refl _) (by rw [List.length_append, lowN_length, lowN_length]; omega)).mono ?_
      rintro e w5 ⟨v', rfl, h⟩
      exact ⟨_, rfl, ⟨hC.1.trans h.2.2.2, Nat.le_trans hC.2 h.2.1.1⟩, trivial, rfl, ⟨v', h.1⟩⟩
  case z4_1e =>
    intro vs V2 hC hS hV
    replace hS : (fun (w : World) => ∃ v, Pn w gp gp (dHead tk hs n) v) V2 := hS
    have d9 : (vs 0) = .pointer (some ⟨gd, 0, none⟩) := hV 0 (Nat.le_of_ble_eq_true rfl)
    have d10 : (vs 1) = .int .u32 tk := hV 1 (Nat.le_of_ble_eq_true rfl)
    have d11 : (vs 2) = .pointer (some ⟨gp, 0, none⟩) := hV 2 (Nat.le_of_ble_eq_true rfl)
    have d12 : (vs 3) = .pointer (some ⟨gd, 1, none⟩) := hV 3 (Nat.le_of_ble_eq_true rfl)
    have d13 : (vs 4) = .int .u32 hs := hV 4 (Nat.le_of_ble_eq_true rfl)
    have d14 : (vs 5) = .pointer (some ⟨gp, 0, none⟩) := hV 5 (Nat.le_of_ble_eq_true rfl)
    have d15 : (vs 6) = .pointer (some ⟨gd, 2, none⟩) := hV 6 (Nat.le_of_ble_eq_true rfl)
    have d16 : (vs 7) = .slice A n c := hV 7 (Nat.le_of_ble_eq_true rfl)
    have d17 : (vs 8) = .int .i64 n := hV 8 (Nat.le_of_ble_eq_true rfl)
    have d18 : (vs 9) = .int .u8 ((n % 256 : Nat) : Int) := hV 9 (Nat.le_of_ble_eq_true rfl)
    have d19 : (vs 10) = .pointer (some ⟨gp, 0, none⟩) := hV 10 (Nat.le_of_ble_eq_true rfl)
    clear hV
    simp only [putAll]
    rw [d9, d10, d11, d12, d13, d14, d15, d16, d17, d18, d19]
    clear d9 d10 d11 d12 d13 d14 d15 d16 d17 d18 d19
    clear vs
    simp only [Act.put, List.setIfInBounds_toArray, List.set_cons_zero, List.set_cons_succ]
    have HP2 := Aside0.mk hS
    have HB2 := Aside0.mk hC.1
    have GC2 := Aside0.mk hC.2
    clear hS hC HP0 HB0
    have c3 := blk_cell ((HB2.out.block gd GD.out).trans HG0.out) 3
    go_wp2_with fail
    clear c3
    go_loopw [23] (fun v23 wr => ∃ i : Nat, i ≤ m ∧ v23 = .int .i64 i ∧ Aside0 ((∃ v, Pn wr gp gp (dHead tk hs n ++ dRows (P.take i) (C.take i)) v) ∧ Below gp V0 wr)) (fun v23 _ => m - (intOf v23).toNat)
    case atStart => exact ⟨0, by omega, rfl, ⟨by simpa [dRows] using HP2.out, HB2.out⟩⟩
    case round =>
      clear HP2 HB2 GC2
      obtain ⟨i, hi, rfl, H⟩ := hrel
      by_cases hlt : i < m
      · have d1 : decide (i < m) = true := decide_eq_true hlt
        have hiP : i < P.length := by rw [HNP.out, HPC.out.1]; exact hlt
        have hiC : i < C.length := by rw [HPC.out.2.1]; exact hlt
        have HI := Aside0.mk (And.intro hiP hiC)
        obtain ⟨f1, f2⟩ := HF0.out wr H.out.2
        obtain ⟨adp, hA, p0⟩ := int_at f1 i hiP
        obtain ⟨adc, hA2, q0, q1⟩ := cell_at25 f2 hiC
        have HROW := Aside0.mk (dRows_succ hiP hiC)
        have HPI0 : Aside0 (∀ z, Below gp V0 z → ∃ ad, A = some ad ∧ z.cell? (ad.add i) = some (.int .u8 P[i])) := ⟨fun z hz => int_at (HF0.out z hz).1 i hiP⟩
        have HX := HB.out _ (List.getElem_mem hiP)
        have HY := HU.out _ (List.getElem_mem hiC)
        subst hA hA2
        have HPI : Aside0 (∀ z, Below gp V0 z → z.cell? (adp.add i) = some (.int .u8 P[i])) := ⟨fun z hz => by obtain ⟨ad, e, h⟩ := HPI0.out z hz; rw [Option.some.inj e]; exact h⟩
        clear HPI0
        have hi0 : (0 : Int) ≤ i := by omega
        have him : (i : Int) < m := by omega
        have hin : (i : Int) < n := by have := HPC.out; omega
        obtain ⟨pi, hpi⟩ : ∃ pi, P[i] = pi := ⟨_, rfl⟩
        obtain ⟨x, hx⟩ : ∃ x, C[i] = x := ⟨_, rfl⟩
        rw [hpi] at p0 HROW HPI
        rw [hx] at q0 q1 HROW HY
        obtain ⟨y0, hy0⟩ : ∃ y0 : Nat, x.f1 = (y0 : Int) := ⟨x.f1.toNat, by unfold U32 at HY; omega⟩
        obtain ⟨x0, hx0⟩ : ∃ x0 : Nat, x.f0 % 4294967296 = (x0 : Int) := ⟨(x.f0 % 4294967296).toNat, by omega⟩
        obtain ⟨z0, hz0⟩ : ∃ z0 : Int, x.f0 = z0 := ⟨_, rfl⟩
        have hcb : cellB true x = lowN x0 4 ++ lowN y0 4 := by unfold cellB; rw [if_pos rfl, hx0, hy0]; simp
        rw [hcb] at HROW
        rw [hz0] at q0 hx0
        rw [hy0] at q1 HY
        have HXW : Aside0 (IntKind.u32.wrap z0 = (x0 : Int) ∧ x0 < 4294967296 ∧ y0 < 4294967296) := ⟨by rw [IntKind.wrap_u32, hx0], by omega, by unfold U32 at HY; omega⟩
        have HLEN : Aside0 ((dHead tk hs n ++ dRows (P.take i) (C.take i)).length ≤ 10000) := ⟨by
          have h1 := dRows_len (P.take i) (C.take i)
          have h2 : (P.take i).length ≤ n := by rw [List.length_take, HNP.out]; omega
          simp only [List.length_append, dHead, lowN_length, List.length_cons, List.length_nil]
          omega⟩
        clear hpi hx hcb hx0 hz0 hy0 HX HY f1 f2
        obtain ⟨W0, hW0⟩ : ∃ W0, dHead tk hs n ++ dRows (P.take i) (C.take i) = W0 := ⟨_, rfl⟩
        rw [hW0] at H HLEN
        have HW0 := Aside0.mk hW0
        clear hW0
        go_wp2_with fail
        have HC0 : Aside0 (Below gp V0 (wr.alloc (.cells #[.int .i32 z0, .int .u32 y0] 30))) := ⟨H.out.2.trans (below_alloc (Below.refl _ _) _ |>.mono (by obtain ⟨v, hv⟩ := H.out.1; exact Nat.le_of_lt hv.lt))⟩
        have HS0 : Aside0 (∃ v, Pn (wr.alloc (.cells #[.int .i32 z0, .int .u32 y0] 30)) gp gp W0 v ∧ v.ownBlock ≠ some wr.heap.size) := ⟨by
          obtain ⟨v, hv⟩ := H.out.1
          exact ⟨v, hv.below (below_alloc (Below.refl _ _) _), fun e => by have := hv.own _ e; omega⟩⟩
        have GC0 := Aside0.mk (blk_new wr (.cells #[.int .i32 z0, .int .u32 y0] 30))
        have GNE : Aside0 (wr.heap.size ≠ gp ∧ gp ≤ wr.heap.size) := ⟨by obtain ⟨v, hv⟩ := H.out.1; have := hv.lt; exact ⟨by omega, by omega⟩⟩
        have GSZ : Aside0 (gp ≤ (wr.alloc (.cells #[.int .i32 z0, .int .u32 y0] 30)).heap.size) := ⟨by have := GNE.out.2; simp; omega⟩
        generalize wr.alloc (.cells #[.int .i32 z0, .int .u32 y0] 30) = z1 at *
        generalize wr.heap.size = gc at *
        clear H
        refine regionS (W := z1)
          [fun _ v => v = .pointer (some ⟨gd, 2, none⟩),
           fun _ v => v = .slice (some adp) n c,
           fun _ v => v = .int .i64 i,
           fun _ v => v = .pointer (some (adp.add i)),
           fun _ v => v = .int .u8 pi,
           fun _ v => v = .pointer (some ⟨gp, 0, none⟩),
           fun _ v => v = .pointer (some ⟨gc, 0, none⟩),
           fun _ v => v = .int .i32 z0,
           fun _ v => v = .int .u32 x0,
           fun _ v => v = .pointer (some ⟨gp, 0, none⟩),
           fun _ v => v = .pointer (some ⟨gc, 1, none⟩),
           fun _ v => v = .int .u32 y0,
           fun _ v => v = .pointer (some ⟨gp, 0, none⟩)]
          [5, 9, 12]
          (fun t => match t with | 0 => fun (rs : List Value) (w : World) => ∃ v, Pn w gp gp W0 v ∧ v.ownBlock ≠ some gc | 1 => fun (rs : List Value) (w : World) => ∃ v, Pn w gp gp (W0 ++ [pi]) v ∧ v.ownBlock ≠ some gc | 2 => fun (rs : List Value) (w : World) => ∃ v, Pn w gp gp (W0 ++ [pi] ++ lowN x0 4) v ∧ v.ownBlock ≠ some gc | 3 => fun (rs : List Value) (w : World) => ∃ v, Pn w gp gp (W0 ++ [pi] ++ lowN x0 4 ++ lowN y0 4) v ∧ v.ownBlock ≠ some gc | _ => fun _ _ => False)
          (fun _ _ _ => True) (fun w => Below gp V0 w ∧ gp ≤ w.heap.size ∧ w.heap[gc]? = some (.cells #[.int .i32 z0, .int .u32 y0] 30 (0, 0)))
          (fun j =>  none)
          [(0, some 28), (1, some 29), (2, some 30), (3, some 31), (4, some 32), (5, some 33), (6, some 34), (7, some 35), (8, some 36), (9, some 37), (10, some 38), (11, some 39), (12, some 40)]
          []
          (by kernel_rfl) (by kernel_rfl) (by kernel_rfl) (by kernel_rfl) (by kernel_rfl) ?z8_2c ?z8_2i ?z8_2b ?z8_2d ?z8_2g ⟨?z8_2t0, ?z8_2t1, ?z8_2t2, ?z8_2t3, ?z8_2t4, ?z8_2t5, ?z8_2t6, ?z8_2t7, ?z8_2t8, ?z8_2t9, ?z8_2t10, ?z8_2t11, ?z8_2t12, trivial⟩ ⟨?z8_2o0, ?z8_2o1, ?z8_2o2, ?z8_2o3, ?z8_2o4, ?z8_2o5, ?z8_2o6, ?z8_2o7, ?z8_2o8, ?z8_2o9, ?z8_2o10, ?z8_2o11, ?z8_2o12, trivial⟩ ?z8_2e
        case z8_2c => exact ⟨HC0.out.trans (below_drew (Below.refl _ _)), GSZ.out, GC0.out⟩
        case z8_2i => exact HS0.out
        case z8_2b => intro w w' hb h; exact ⟨h.1.trans (hb.mono h.2.1), Nat.le_trans h.2.1 hb.size, blk_below h.2.2 hb⟩
        case z8_2d =>
          intro t rs w w' hb h
          match t, h with
          | 0, h => (replace h : ∃ v, Pn w gp gp W0 v ∧ v.ownBlock ≠ some gc := h); show ∃ v, Pn w' gp gp W0 v ∧ v.ownBlock ≠ some gc; (obtain ⟨v, h, h2⟩ := h; exact ⟨v, h.below hb, h2⟩)
          | 1, h => (replace h : ∃ v, Pn w gp gp (W0 ++ [pi]) v ∧ v.ownBlock ≠ some gc := h); show ∃ v, Pn w' gp gp (W0 ++ [pi]) v ∧ v.ownBlock ≠ some gc; (obtain ⟨v, h, h2⟩ := h; exact ⟨v, h.below hb, h2⟩)
          | 2, h => (replace h : ∃ v, Pn w gp gp (W0 ++ [pi] ++ lowN x0 4) v ∧ v.ownBlock ≠ some gc := h); show ∃ v, Pn w' gp gp (W0 ++ [pi] ++ lowN x0 4) v ∧ v.ownBlock ≠ some gc; (obtain ⟨v, h, h2⟩ := h; exact ⟨v, h.below hb, h2⟩)
          | 3, h => (replace h : ∃ v, Pn w gp gp (W0 ++ [pi] ++ lowN x0 4 ++ lowN y0 4) v ∧ v.ownBlock ≠ some gc := h); show ∃ v, Pn w' gp gp (W0 ++ [pi] ++ lowN x0 4 ++ lowN y0 4) v ∧ v.ownBlock ≠ some gc; (obtain ⟨v, h, h2⟩ := h; exact ⟨v, h.below hb, h2⟩)
          | _ + 4, h => exact h.elim
        case z8_2g =>
          intro j hj; cases hj
        case z8_2t0 => exact StabS.const _ _ _ _
        case z8_2t1 => exact StabS.const _ _ _ _
        case z8_2t2 => exact StabS.const _ _ _ _
        case z8_2t3 => exact StabS.const _ _ _ _
        case z8_2t4 => exact StabS.const _ _ _ _
        case z8_2t5 => exact StabS.const _ _ _ _
        case z8_2t6 => exact StabS.const _ _ _ _
        case z8_2t7 => exact StabS.const _ _ _ _
        case z8_2t8 => exact StabS.const _ _ _ _
        case z8_2t9 => exact StabS.const _ _ _ _
        case z8_2t10 => exact StabS.const _ _ _ _
        case z8_2t11 => exact StabS.const _ _ _ _
        case z8_2t12 => exact StabS.const _ _ _ _
        case z8_2o0 =>
          intro vs w t hC ht1 ht2 hS hV
          rw [if_pos (by kernel_rfl)]
          generalize hρ : rho _ _ _ vs = ρ
          have e1 : ρ (.tmp 1) = .pointer (some ⟨gd, 0, none⟩) := by rw [← hρ]; kernel_rfl
          clear hρ hV
          refine runs_val (v := .pointer (some ⟨gd, 2, none⟩)) (w' := w) ?_ ⟨Below.refl _ _, rfl⟩
          clear ht1 ht2 hS hC
          go_simp <;> (first | exact IntWalk.u64_in _ (by omega) | exact IntWalk.u32_in _ (by omega) | exact IntWalk.u16_in _ (by omega) | exact IntWalk.u8_in _ (by omega) | exact IntWalk.i64_in _ (by omega) | skip)
        case z8_2o1 =>
          intro vs w t hC ht1 ht2 hS hV
          rw [if_pos (by kernel_rfl)]
          generalize hρ : rho _ _ _ vs = ρ
          have d28 : (vs 0) = .pointer (some ⟨gd, 2, none⟩) := hV 0 (by kernel_rfl)
          have e28 : ρ (.tmp 28) = vs 0 := by rw [← hρ]; kernel_rfl
          rw [d28] at e28; clear d28
          clear hρ hV
          have c0 := blk_cell ((hC.1.block gd GD.out).trans HG0.out) 2
          refine runs_val (v := .slice (some adp) n c) (w' := w) ?_ ⟨Below.refl _ _, rfl⟩
          clear ht1 ht2 hS hC
          go_simp
        case z8_2o2 =>
          intro vs w t hC ht1 ht2 hS hV
          rw [if_pos (by kernel_rfl)]
          generalize hρ : rho _ _ _ vs = ρ
          have e4 : ρ (.tmp 4) = .int .i64 i := by rw [← hρ]; kernel_rfl
          clear hρ hV
          refine runs_val (v := .int .i64 i) (w' := w) ?_ ⟨Below.refl _ _, rfl⟩
          clear ht1 ht2 hS hC
          go_simp <;> (first | exact IntWalk.u64_in _ (by omega) | exact IntWalk.u32_in _ (by omega) | exact IntWalk.u16_in _ (by omega) | exact IntWalk.u8_in _ (by omega) | exact IntWalk.i64_in _ (by omega) | skip)
        case z8_2o3 =>
          intro vs w t hC ht1 ht2 hS hV
          rw [if_pos (by kernel_rfl)]
          generalize hρ : rho _ _ _ vs = ρ
          have d29 : (vs 1) = .slice (some adp) n c := hV 1 (by kernel_rfl)
          have e29 : ρ (.tmp 29) = vs 1 := by rw [← hρ]; kernel_rfl
          rw [d29] at e29; clear d29
          have d30 : (vs 2) = .int .i64 i := hV 2 (by kernel_rfl)
          have e30 : ρ (.tmp 30) = vs 2 := by rw [← hρ]; kernel_rfl
          rw [d30] at e30; clear d30
          clear hρ hV
          refine runs_val (v := .pointer (some (adp.add i))) (w' := w) ?_ ⟨Below.refl _ _, rfl⟩
          clear ht1 ht2 hS hC
          go_simp <;> (first | exact IntWalk.u64_in _ (by omega) | exact IntWalk.u32_in _ (by omega) | exact IntWalk.u16_in _ (by omega) | exact IntWalk.u8_in _ (by omega) | exact IntWalk.i64_in _ (by omega) | skip)
        case z8_2o4 =>
          intro vs w t hC ht1 ht2 hS hV
          rw [if_pos (by kernel_rfl)]
          generalize hρ : rho _ _ _ vs = ρ
          have d31 : (vs 3) = .pointer (some (adp.add i)) := hV 3 (by kernel_rfl)
          have e31 : ρ (.tmp 31) = vs 3 := by rw [← hρ]; kernel_rfl
          rw [d31] at e31; clear d31
          clear hρ hV
          have c0 := HPI.out w hC.1
          refine runs_val (v := .int .u8 pi) (w' := w) ?_ ⟨Below.refl _ _, rfl⟩
          clear ht1 ht2 hS hC
          go_simp
        case z8_2o5 =>
          intro vs w hC hS hV
          replace hS : ∃ v, Pn w gp gp W0 v ∧ v.ownBlock ≠ some gc := hS
          rw [if_pos (by kernel_rfl)]
          generalize hρ : rho _ _ _ vs = ρ
          have e3 : ρ (.tmp 3) = .pointer (some ⟨gp, 0, none⟩) := by rw [← hρ]; kernel_rfl
          have d32 : (vs 4) = .int .u8 pi := hV 4 (by kernel_rfl)
          have e32 : ρ (.tmp 32) = vs 4 := by rw [← hρ]; kernel_rfl
          rw [d32] at e32; clear d32
          have ef39 : ρ (.func 39) = .func (.func 39) #[] #[] := by rw [← hρ]; rfl
          clear hρ hV
          obtain ⟨v, hp, hv⟩ := hS
          refine runs_call (f := 39) (args := #[.pointer (some ⟨gp, 0, none⟩), .int .u8 pi]) (w' := w) ?_ ?_
          · go_simp
          · refine (pbyte_any gp gp W0 v _ w hp (Nat.le_refl _) (by have := HLEN.out; omega)).mono ?_
            rintro e w5 ⟨v', rfl, h⟩
            obtain ⟨k1, k2⟩ := h.blk hC.2.2 GNE.out.1 hv
            exact ⟨_, rfl, ⟨hC.1.trans h.2.2.2, Nat.le_trans hC.2.1 h.2.1.1, k1⟩, trivial, rfl, ⟨v', h.1, k2⟩⟩
        case z8_2o6 =>
          intro vs w t hC ht1 ht2 hS hV
          rw [if_pos (by kernel_rfl)]
          generalize hρ : rho _ _ _ vs = ρ
          have e5 : ρ (.tmp 5) = .pointer (some ⟨gc, 0, none⟩) := by rw [← hρ]; kernel_rfl
          clear hρ hV
          refine runs_val (v := .pointer (some ⟨gc, 0, none⟩)) (w' := w) ?_ ⟨Below.refl _ _, rfl⟩
          clear ht1 ht2 hS hC
          go_simp <;> (first | exact IntWalk.u64_in _ (by omega) | exact IntWalk.u32_in _ (by omega) | exact IntWalk.u16_in _ (by omega) | exact IntWalk.u8_in _ (by omega) | exact IntWalk.i64_in _ (by omega) | skip)
        case z8_2o7 =>
          intro vs w t hC ht1 ht2 hS hV
          rw [if_pos (by kernel_rfl)]
          generalize hρ : rho _ _ _ vs = ρ
          have d34 : (vs 6) = .pointer (some ⟨gc, 0, none⟩) := hV 6 (by kernel_rfl)
          have e34 : ρ (.tmp 34) = vs 6 := by rw [← hρ]; kernel_rfl
          rw [d34] at e34; clear d34
          clear hρ hV
          have c0 := blk_cell hC.2.2 0
          refine runs_val (v := .int .i32 z0) (w' := w) ?_ ⟨Below.refl _ _, rfl⟩
          clear ht1 ht2 hS hC
          go_simp
        case z8_2o8 =>
          intro vs w t hC ht1 ht2 hS hV
          rw [if_pos (by kernel_rfl)]
          generalize hρ : rho _ _ _ vs = ρ
          have d35 : (vs 7) = .int .i32 z0 := hV 7 (by kernel_rfl)
          have e35 : ρ (.tmp 35) = vs 7 := by rw [← hρ]; kernel_rfl
          rw [d35] at e35; clear d35
          clear hρ hV
          have ix := HXW.out.1
          refine runs_val (v := .int .u32 x0) (w' := w) ?_ ⟨Below.refl _ _, rfl⟩
          clear ht1 ht2 hS hC
          rw [← ix]
          clear ix
          go_simp
        case z8_2o9 =>
          intro vs w hC hS hV
          replace hS : ∃ v, Pn w gp gp (W0 ++ [pi]) v ∧ v.ownBlock ≠ some gc := hS
          rw [if_pos (by kernel_rfl)]
          generalize hρ : rho _ _ _ vs = ρ
          have d33 : (vs 5) = .pointer (some ⟨gp, 0, none⟩) := hV 5 (by kernel_rfl)
          have e33 : ρ (.tmp 33) = vs 5 := by rw [← hρ]; kernel_rfl
          rw [d33] at e33; clear d33
          have d36 : (vs 8) = .int .u32 x0 := hV 8 (by kernel_rfl)
          have e36 : ρ (.tmp 36) = vs 8 := by rw [← hρ]; kernel_rfl
          rw [d36] at e36; clear d36
          have ef38 : ρ (.func 38) = .func (.func 38) #[] #[] := by rw [← hρ]; rfl
          clear hρ hV
          obtain ⟨v, hp, hv⟩ := hS
          refine runs_call (f := 38) (args := #[.pointer (some ⟨gp, 0, none⟩), .int .u32 x0]) (w' := w) ?_ ?_
          · go_simp
          · refine (pword_any gp gp (W0 ++ [pi]) v x0 HXW.out.2.1 w hp (Nat.le_refl _) (by have := HLEN.out; simp only [List.length_append, List.length_cons, List.length_nil]; omega)).mono ?_
            rintro e w5 ⟨v', rfl, h⟩
            obtain ⟨k1, k2⟩ := h.blk hC.2.2 GNE.out.1 hv
            exact ⟨_, rfl, ⟨hC.1.trans h.2.2.2, Nat.le_trans hC.2.1 h.2.1.1, k1⟩, trivial, rfl, ⟨v', h.1, k2⟩⟩
        case z8_2o10 =>
          intro vs w t hC ht1 ht2 hS hV
          rw [if_pos (by kernel_rfl)]
          generalize hρ : rho _ _ _ vs = ρ
          have e5 : ρ (.tmp 5) = .pointer (some ⟨gc, 0, none⟩) := by rw [← hρ]; kernel_rfl
          clear hρ hV
          refine runs_val (v := .pointer (some ⟨gc, 1, none⟩)) (w' := w) ?_ ⟨Below.refl _ _, rfl⟩
          clear ht1 ht2 hS hC
          go_simp <;> (first | exact IntWalk.u64_in _ (by omega) | exact IntWalk.u32_in _ (by omega) | exact IntWalk.u16_in _ (by omega) | exact IntWalk.u8_in _ (by omega) | exact IntWalk.i64_in _ (by omega) | skip)
        case z8_2o11 =>
          intro vs w t hC ht1 ht2 hS hV
          rw [if_pos (by kernel_rfl)]
          generalize hρ : rho _ _ _ vs = ρ
          have d38 : (vs 10) = .pointer (some ⟨gc, 1, none⟩) := hV 10 (by kernel_rfl)
          have e38 : ρ (.tmp 38) = vs 10 := by rw [← hρ]; kernel_rfl
          rw [d38] at e38; clear d38
          clear hρ hV
          have c0 := blk_cell hC.2.2 1
          refine runs_val (v := .int .u32 y0) (w' := w) ?_ ⟨Below.refl _ _, rfl⟩
          clear ht1 ht2 hS hC
          go_simp
        case z8_2o12 =>
          intro vs w hC hS hV
          replace hS : ∃ v, Pn w gp gp (W0 ++ [pi] ++ lowN x0 4) v ∧ v.ownBlock ≠ some gc := hS
          rw [if_pos (by kernel_rfl)]
          generalize hρ : rho _ _ _ vs = ρ
          have d37 : (vs 9) = .pointer (some ⟨gp, 0, none⟩) := hV 9 (by kernel_rfl)
          have e37 : ρ (.tmp 37) = vs 9 := by rw [← hρ]; kernel_rfl
          rw [d37] at e37; clear d37
          have d39 : (vs 11) = .int .u32 y0 := hV 11 (by kernel_rfl)
          have e39 : ρ (.tmp 39) = vs 11 := by rw [← hρ]; kernel_rfl
          rw [d39] at e39; clear d39
          have ef38 : ρ (.func 38) = .func (.func 38) #[] #[] := by rw [← hρ]; rfl
          clear hρ hV
          obtain ⟨v, hp, hv⟩ := hS
          refine runs_call (f := 38) (args := #[.pointer (some ⟨gp, 0, none⟩), .int .u32 y0]) (w' := w) ?_ ?_
          · go_simp
          · refine (pword_any gp gp (W0 ++ [pi] ++ lowN x0 4) v y0 HXW.out.2.2 w hp (Nat.le_refl _) (by have := HLEN.out; simp only [List.length_append, List.length_cons, List.length_nil, lowN_length]; omega)).mono ?_
            rintro e w5 ⟨v', rfl, h⟩
            obtain ⟨k1, k2⟩ := h.blk hC.2.2 GNE.out.1 hv
            exact ⟨_, rfl, ⟨hC.1.trans h.2.2.2, Nat.le_trans hC.2.1 h.2.1.1, k1⟩, trivial, rfl, ⟨v', h.1, k2⟩⟩
        case z8_2e =>
          intro vs z2 hC hS hV
          replace hS : (fun (w : World) => ∃ v, Pn w gp gp (W0 ++ [pi] ++ lowN x0 4 ++ lowN y0 4) v ∧ v.ownBlock ≠ some gc) z2 := hS
          have d28 : (vs 0) = .pointer (some ⟨gd, 2, none⟩) := hV 0 (Nat.le_of_ble_eq_true rfl)
          have d29 : (vs 1) = .slice (some adp) n c := hV 1 (Nat.le_of_ble_eq_true rfl)
          have d30 : (vs 2) = .int .i64 i := hV 2 (Nat.le_of_ble_eq_true rfl)
          have d31 : (vs 3) = .pointer (some (adp.add i)) := hV 3 (Nat.le_of_ble_eq_true rfl)
          have d32 : (vs 4) = .int .u8 pi := hV 4 (Nat.le_of_ble_eq_true rfl)
          have d33 : (vs 5) = .pointer (some ⟨gp, 0, none⟩) := hV 5 (Nat.le_of_ble_eq_true rfl)
          have d34 : (vs 6) = .pointer (some ⟨gc, 0, none⟩) := hV 6 (Nat.le_of_ble_eq_true rfl)
          have d35 : (vs 7) = .int .i32 z0 := hV 7 (Nat.le_of_ble_eq_true rfl)
          have d36 : (vs 8) = .int .u32 x0 := hV 8 (Nat.le_of_ble_eq_true rfl)
          have d37 : (vs 9) = .pointer (some ⟨gp, 0, none⟩) := hV 9 (Nat.le_of_ble_eq_true rfl)
          have d38 : (vs 10) = .pointer (some ⟨gc, 1, none⟩) := hV 10 (Nat.le_of_ble_eq_true rfl)
          have d39 : (vs 11) = .int .u32 y0 := hV 11 (Nat.le_of_ble_eq_true rfl)
          have d40 : (vs 12) = .pointer (some ⟨gp, 0, none⟩) := hV 12 (Nat.le_of_ble_eq_true rfl)
          clear hV
          simp only [putAll]
          rw [d28, d29, d30, d31, d32, d33, d34, d35, d36, d37, d38, d39, d40]
          clear d28 d29 d30 d31 d32 d33 d34 d35 d36 d37 d38 d39 d40
          clear vs
          simp only [Act.put, List.setIfInBounds_toArray, List.set_cons_zero, List.set_cons_succ]
          have HE : Aside0 ((∃ v, Pn z2 gp gp (dHead tk hs n ++ dRows (P.take (i + 1)) (C.take (i + 1))) v) ∧ Below gp V0 z2) := ⟨by
            obtain ⟨v, h1, _⟩ := hS
            refine ⟨⟨v, ?_⟩, hC.1⟩
            rw [HROW.out, ← List.append_assoc, HW0.out]
            have e : W0 ++ (pi :: (lowN x0 4 ++ lowN y0 4)) = W0 ++ [pi] ++ lowN x0 4 ++ lowN y0 4 := by simp
            rw [e]; exact h1⟩
          clear hS hC HC0 HS0 GC0 GNE GSZ
          go_wp2_with fail
          go_roundw
          case rel => exact ⟨i + 1, by omega, by go_num, HE⟩
          case measure => simp [intOf]; omega
      · obtain rfl : i = m := by omega
        have d1 : decide (i < i) = false := decide_eq_false (by omega)
        obtain ⟨v, hv⟩ := H.out.1
        have HE : Aside0 (dHead tk hs n ++ dRows (P.take i) (C.take i) = dBytes tk hs P C) := ⟨by unfold dBytes; rw [List.take_of_length_le (by rw [HNP.out, HPC.out.1]; omega), List.take_of_length_le (by rw [HPC.out.2.1]; omega), HNP.out]⟩
        rw [HE.out] at hv
        have HLEN : Aside0 ((dBytes tk hs P C).length ≤ 1000000) := ⟨by
          have h1 := dRows_len P C
          have := HPC.out
          have := HNP.out
          simp only [dBytes, List.length_append, dHead, lowN_length, List.length_cons, List.length_nil]
          omega⟩
        have KEY := Aside0.mk (pbytes_any gp gp (dBytes tk hs P C) v wr hv HLEN.out)
        have HBW := Aside0.mk H.out.2
        have GSW : Aside0 (gp ≤ wr.heap.size) := ⟨Nat.le_of_lt hv.lt⟩
        clear hv H HLEN HE
        generalize hdw : dBytes tk hs P C = dw at *
        have HDW := Aside0.mk hdw
        clear hdw
        go_wp2_with fail
        refine KEY.out.mono ?_
        rintro e wz ⟨vo, rfl, k1, k2⟩
        have K1 := Aside0.mk k1
        have K2 := Aside0.mk k2
        clear k1 k2 KEY
        go_wp2_with fail
        go_ret
        rw [HGD.out]
        try rw [HDW.out]
        exact ⟨vo, rfl, Kd.R_lower K1.out (Nat.le_trans (Nat.le_of_lt GD.out) GSW.out), H1.out.bel.trans ((HBW.out.trans (K2.out.mono GSW.out)).mono (Nat.le_of_lt GD.out))⟩
end Go.Proofs.Ytkhlalpkkmjfnaa

namespace Go.Proofs.Ytkhlalpkkmjfnaa
open Go.RowKit Go.Proofs.YtkhlalpkkmjfnaaW.PrintWords Go.Proofs.YtkhlalpkkmjfnaaW.PrintLast Go.Proofs.YtkhlalpkkmjfnaaW.PrintMore
set_option linter.unusedVariables false
set_option linter.unusedSimpArgs false

/-- What delta.Of tells, as a value and rows. -/
def OfR (w0 : Nat) (w' : World) (tk hs : Int) (P : List Int) (C : List S30) (v : Value) : Prop :=
  ∃ A c A2 c2, v = .agg #[.int .u32 tk, .int .u32 hs, .slice A P.length c, .slice A2 C.length c2] ∧ P.length ≤ c ∧ C.length ≤ c2 ∧
    (Kd.int .u8).R 5 w' w0 (fun _ => True) (.slice A P.length c) P ∧ k30.R 30 w' w0 (fun _ => True) (.slice A2 C.length c2) C
theorem OfR.cells {w0 : Nat} {w' : World} {tk hs : Int} {P : List Int} {C : List S30} {v : Value} (h : OfR w0 w' tk hs P C v) :
    ∃ A c A2 c2, v = .agg #[.int .u32 tk, .int .u32 hs, .slice A P.length c, .slice A2 C.length c2] ∧ P.length ≤ c ∧ C.length ≤ c2 ∧ (Kd.int .u8).C w' A P.length P ∧ k30.C w' A2 C.length C := by
  obtain ⟨A, c, A2, c2, rfl, h1, h2, h3, h4⟩ := h
  exact ⟨A, c, A2, c2, rfl, h1, h2, (Ru_C h3).2.2, (Ru_C h4).2.2⟩
theorem of_full (f : Nat → S30) (n t : Nat) (o tk : Int) (w : World) (hn : n ≤ 48) (ht : t < 18446744073709551616) (hf : ∀ k, k < n → U32 (f k).f1) :
    Calls Try.prog 13 #[.agg (boardC f n), .int .u64 t, .int .i64 o, .int .u32 tk] w fun e w' => ∃ v, e = .returned v ∧ OfR w.heap.size w' tk (sumB true (listF (viewF f n o) n)) (plL t n) (clL (viewF f n o) t n) v ∧ Below w.heap.size w w' := by
  refine (of_any f n t o tk w hn ht hf).mono ?_
  rintro e w' ⟨vP, vC, rfl, h1, h2, h3⟩
  obtain ⟨A, c, rfl, l1, _⟩ := Kd.R_reads h1
  obtain ⟨A2, c2, rfl, l2, _⟩ := Kd.R_reads h2
  exact ⟨_, rfl, ⟨A, c, A2, c2, rfl, l1, l2, h1, h2⟩, h3⟩
def allT : Nat := 18446744073709551615
set_option maxRecDepth 100000 in
set_option maxHeartbeats 4000000 in
theorem full_any (f : Nat → S30) (n : Nat) (o tk : Int) (w : World) (hn : n ≤ 48) (hf : ∀ k, k < n → U32 (f k).f1) :
    Calls Try.prog 15 #[.agg (boardC f n), .int .i64 o, .int .u32 tk] w fun e w' => ∃ v, e = .returned v ∧ OfR w.heap.size w' tk (sumB true (listF (viewF f n o) n)) (plL allT n) (clL (viewF f n o) allT n) v ∧ Below w.heap.size w w' := by
  have HI := fun f m => Aside0.mk (board_info f m)
  have H0 := Aside0.mk (((Hp.start w).alloc (.cells (boardC f n) 34)).allocAt (.cells #[.int .u32 0, .int .u32 0, .slice none 0 0, .slice none 0 0] 41) (w.heap.size + 1) (by simp))
  have KEY := fun X : World => Aside0.mk (of_full f n allT o tk X hn (by decide) hf)
  have hA : ((allT : Nat) : Int) = 18446744073709551615 := by decide
  rw [hA] at KEY
  clear hA hn hf
  generalize plL allT n = P at *
  generalize clL (viewF f n o) allT n = C at *
  generalize sumB true (listF (viewF f n o) n) = hs at *
  go_enter Try.func15, Try.ntmps15
  go_wp2_with (first | (refine wpList_load_row_g 34 (.tmp 3) rfl (w.heap.size) rfl rfl 34 _ (0, 0) _ (H0.out.get (i := 1) rfl) Try.underlying34 rfl (HI _ _).out ?_))
  refine (KEY _).out.mono ?_
  rintro e w1 ⟨v, rfl, hv, hb1⟩
  have H1 := Aside0.mk (H0.out.call hb1)
  have HV := Aside0.mk hv
  obtain ⟨A, c, A2, c2, rfl, _, _, h3, h4⟩ := hv
  have H2 := Aside0.mk (H1.out.setRow (i := 0) rfl #[.int .u32 tk, .int .u32 hs, .slice A P.length c, .slice A2 C.length c2])
  have HP := Aside0.mk h3
  have HC := Aside0.mk h4
  generalize hp : P.length = p at *
  generalize hc : C.length = q at *
  have HPQ := Aside0.mk (And.intro hp hc)
  have HL : Aside0 ((.slice A p c : Value).ownBlock ≠ some (w.heap.size + 1) ∧ (.slice A2 q c2 : Value).ownBlock ≠ some (w.heap.size + 1)) := ⟨fun e => Kd.R_ne h3 (H1.out.get (i := 0) rfl) (by decide) e.symm, fun e => Kd.R_ne h4 (H1.out.get (i := 0) rfl) (by decide) e.symm⟩
  clear hb1 KEY H0 h3 h4 hp hc
  go_wp2_with (first | (refine wpList_store_row rfl 41 (.tmp 6) (.tmp 10) rfl (w.heap.size + 1) #[.int .u32 tk, .int .u32 hs, .slice A p c, .slice A2 q c2] rfl rfl 41 _ (H1.out.get (i := 0) rfl) (delta_info _ _ _ _) rfl (by simp [Value.oneCell']) ?_))
  refine bodyPost_ret (results_cell_row rfl _ _ (w.heap.size + 1) _ #[.int .u32 tk, .int .u32 hs, .slice A p c, .slice A2 q c2] (0, 0) _ rfl (H2.out.get (i := 0) rfl) Try.underlying41 rfl (delta_info _ _ _ _)) rfl ?_
  obtain ⟨e1, e2⟩ := HPQ.out
  subst e1 e2
  obtain ⟨A', c', A2', c2', ee, l1, l2, _, _⟩ := HV.out
  simp only [Value.agg.injEq, Array.mk.injEq, List.cons.injEq, Value.slice.injEq, true_and, and_true] at ee
  obtain ⟨⟨rfl, rfl⟩, rfl, rfl⟩ := ee
  have rP := Kd.R_lower HP.out (show w.heap.size ≤ _ by simp; omega)
  have rC := Kd.R_lower HC.out (show w.heap.size ≤ _ by simp; omega)
  exact ⟨_, rfl, ⟨A, c, A2, c2, rfl, l1, l2, Kd.R_grown2 rP rfl (grown_setRow _ _ _) (fun k hk e => HL.out.1 (by rw [← e, hk])), Kd.R_grown2 rC rfl (grown_setRow _ _ _) (fun k hk e => HL.out.2 (by rw [← e, hk]))⟩, H2.out.bel⟩
end Go.Proofs.Ytkhlalpkkmjfnaa

namespace Go.Proofs.Ytkhlalpkkmjfnaa
open Go.RowKit Go.Proofs.YtkhlalpkkmjfnaaW.PrintWords Go.Proofs.YtkhlalpkkmjfnaaW.PrintLast Go.Proofs.YtkhlalpkkmjfnaaW.PrintMore
set_option linter.unusedVariables false
set_option linter.unusedSimpArgs false

theorem few7_f (L : List S30) : hoodwinklaw07_few.f L = some (L.take 48) := by
  unfold hoodwinklaw07_few.f
  have h1 : (0 : Int) ≤ mn (L.length : Int) 48 := by unfold mn; split <;> omega
  have h2 : mn (L.length : Int) 48 ≤ (L.length : Int) := by unfold mn; split <;> omega
  have h3 : (mn (L.length : Int) 48).toNat = min L.length 48 := by unfold mn; split <;> omega
  have h4 : L.take (min L.length 48) = L.take 48 := by rw [List.take_eq_take_iff]; omega
  show ((if 0 ≤ mn (L.length : Int) 48 then _ else none : Option (List S30))) = _
  rw [if_pos h1, if_pos h2, h3, h4]
  show ((if ([] : List S30).length + (L.take 48).length < 17592186044416 then some ([] ++ L.take 48) else none : Option (List S30))) = _
  rw [if_pos (by rw [List.length_take]; simp; omega), List.nil_append]
theorem few7_any (A : Option Addr) (n c : Nat) (L : List S30) (w : World) (hr : k30.C w A n L) (hc : n ≤ c) :
    Calls Try.prog 9 #[.slice A n c] w fun e w' => ∃ v, e = .returned v ∧ k30.R 30 w' w.heap.size (fun _ => True) v (L.take 48) ∧ Below w.heap.size w w' := by
  obtain rfl := hr.1
  exact hoodwinklaw07_few.calls A c L _ w hr hc (few7_f L)
/-- A row of cells that the call has made. -/
theorem C_of_cells {w : World} {g : Nat} {L : List S30} (h : w.heap[g]? = some (.cells (flatC L).toArray 30 (0, 0))) (hm : L.length ≤ 1000000) : k30.C w (some ⟨g, 0, none⟩) L.length L := Rc.reads h hm
theorem add0' (ad : Addr) : ad.add 0 = ad := by cases ad; simp [Addr.add]
theorem has_zero : hasB 0 0 = false := by kernel_rfl
theorem ex_places : plL 2 2 = [1] := by decide
theorem ex_cells (f : Nat → S30) : clL f 2 2 = [f 1] := by
  have : touchL 2 2 = [1] := by decide
  unfold clL; rw [this]; rfl

set_option maxRecDepth 100000 in
set_option maxHeartbeats 4000000 in
theorem awake7_any (w : World) : Calls Try.prog 8 #[] w fun e w' => e = .returned (.bool true) ∧ Below w.heap.size w w' := by
  have hz := zero_board
  have HI := fun f m => Aside0.mk (board_info f m)
  have HO := fun f m => Aside0.mk (boardC_one f m)
  have KN := Aside0.mk (new_any (some ⟨w.heap.size, 0, none⟩) 2 2 [⟨7, 1⟩, ⟨8, 0⟩] _ (C_of_cells (L := [⟨7, 1⟩, ⟨8, 0⟩]) (blk_new w (.cells #[.int .i32 7, .int .u32 1, .int .i32 8, .int .u32 0] 30)) (by decide)) (by decide) (by decide))
  have H0 := Aside0.mk ((Hp.start w).call (below_alloc (Below.refl w.heap.size w) (.cells #[.int .i32 7, .int .u32 1, .int .i32 8, .int .u32 0] 30)))
  go_enter Try.func8, Try.ntmps8
  go_wp2_with fail
  refine KN.out.mono ?_
  rintro e w2 ⟨rfl, hb2⟩
  have H1 := Aside0.mk (H0.out.call hb2)
  clear hb2 KN H0
  obtain ⟨f, hf⟩ : ∃ f, fL [⟨7, 1⟩, ⟨8, 0⟩] = f := ⟨_, rfl⟩
  have HF : Aside0 (f 0 = ⟨7, 1⟩ ∧ f 1 = ⟨8, 0⟩) := ⟨by rw [← hf]; exact ⟨rfl, rfl⟩⟩
  rw [hf]
  clear hf
  have HZ := Aside0.mk (blk_new w2 (.cells (boardC (fun _ => z30) 0) 34))
  have H2 := Aside0.mk ((H1.out.alloc (.cells (boardC (fun _ => z30) 0) 34)).setRow (i := 0) rfl (boardC f 2))
  clear H1
  go_wp2_with (first | (refine wpList_load_row_g 34 (.tmp 1) rfl (w2.heap.size) rfl rfl 34 _ (0, 0) _ (H2.out.get (i := 0) rfl) Try.underlying34 rfl (HI _ _).out ?_) | (refine wpList_store_row rfl 34 (.tmp 1) (.tmp 9) rfl (w2.heap.size) (boardC f 2) rfl rfl 34 _ HZ.out (HI _ _).out (by rw [boardC_size, boardC_size]) (HO _ _).out ?_))
  have HU : Aside0 (∀ k, k < 2 → U32 (f k).f1) := ⟨fun k hk => by
    match k, hk with
    | 0, _ => rw [HF.out.1]; unfold U32; decide
    | 1, _ => rw [HF.out.2]; unfold U32; decide⟩
  have KO := fun X : World => Aside0.mk (of_full f 2 2 0 5 X (by decide) (by decide) HU.out)
  rw [ex_places, ex_cells] at KO
  have hv : viewF f 2 0 1 = ⟨0, 0⟩ := by unfold viewF; rw [HF.out.2]; rw [if_pos ⟨by decide, has_zero⟩]
  rw [hv] at KO
  clear hv
  have HHS : Aside0 (sumB true (listF (viewF f 2 0) 2) < 4294967296) := ⟨by unfold sumB sumN; omega⟩
  generalize sumB true (listF (viewF f 2 0) 2) = hs at *
  generalize (w2.alloc (.cells (boardC (fun _ => z30) 0) 34)).setRow w2.heap.size (boardC f 2) = w3 at *
  refine (KO _).out.mono ?_
  rintro e w4 ⟨v, rfl, hv, hb4⟩
  have H3 := Aside0.mk (H2.out.call hb4)
  obtain ⟨A, c, A2, c2, rfl, l1, l2, h3, h4⟩ := hv.cells
  have hb5 := below_alloc (Below.refl w4.heap.size w4) (.cells #[.int .u32 5, .int .u32 hs, .slice A 1 c, .slice A2 1 c2] 41)
  have H4 := Aside0.mk (H3.out.alloc (.cells #[.int .u32 5, .int .u32 hs, .slice A 1 c, .slice A2 1 c2] 41))
  have KB := Aside0.mk (dbytes_yes 5 hs A A2 1 c 1 c2 [1] [⟨0, 0⟩] _ (Kd.C_below h3 hb5) l1 (Kd.C_below h4 hb5) l2 (by decide) (by decide) HHS.out (by intro x hx; obtain rfl := List.mem_singleton.1 hx; unfold U32; decide))
  have e5 : ((5 : Nat) : Int) = 5 := rfl
  rw [e5] at KB
  clear e5
  have HD := Aside0.mk (And.intro (Kd.C_below h3 hb5) (Kd.C_below h4 hb5))
  clear hb4 hb5 hv l1 l2 h3 h4 KO HZ H2 HU H3
  go_wp2_with (first | (refine wpList_load_row_g 41 (.tmp 3) rfl (w4.heap.size) rfl rfl 41 _ (0, 0) _ (H4.out.get (i := 0) rfl) Try.underlying41 rfl (delta_info _ _ _ _) ?_))
  refine KB.out.mono ?_
  rintro e w5 ⟨vb, rfl, hvb, hb6⟩
  obtain ⟨Q, d, rfl, l3, _⟩ := Kd.R_reads hvb
  have hlen : (dBytes 5 hs [1] [⟨0, 0⟩]).length = 18 := by simp [dBytes, dHead, dRows, dCell, cellB, lowN_length]
  rw [hlen]
  have H5 := Aside0.mk (H4.out.call hb6)
  obtain ⟨adp, rfl, p0⟩ := int_at (Kd.C_below HD.out.1 hb6) 0 (by decide)
  obtain ⟨adc, rfl, q0, q1⟩ := cell_at25 (Kd.C_below HD.out.2 hb6) (j := 0) (by decide)
  rw [List.getElem_cons_zero, add0'] at p0
  rw [List.getElem_cons_zero, Nat.zero_mul, add0'] at q0
  have c0 := blk_cell (H5.out.get (i := 0) rfl) 0
  have c2 := blk_cell (H5.out.get (i := 0) rfl) 2
  have c3 := blk_cell (H5.out.get (i := 0) rfl) 3
  clear hvb l3 hlen hb6 KB HD H4 q1
  go_wp2_with fail
  go_ret
  exact ⟨rfl, H5.out.bel⟩
end Go.Proofs.Ytkhlalpkkmjfnaa

namespace Go.Proofs.Ytkhlalpkkmjfnaa
open Go.RowKit Go.Proofs.YtkhlalpkkmjfnaaW.PrintWords Go.Proofs.YtkhlalpkkmjfnaaW.PrintLast Go.Proofs.YtkhlalpkkmjfnaaW.PrintMore
set_option linter.unusedVariables false
set_option linter.unusedSimpArgs false

theorem same_l0 (x y : List Int) (hl : x.length = y.length) (hx : x.length ≤ 9223372036854775807) : ∀ (d k i : Nat), i + d = x.length → d < k →
    hoodwinkref01_Same.l0 k x y (x.length : Int) (i : Int) = some (decide (x.drop i = y.drop i))
  | 0, k, i, hi, hk => by
    obtain ⟨k, rfl⟩ : ∃ q, k = q + 1 := ⟨k - 1, by omega⟩
    simp only [hoodwinkref01_Same.l0]
    rw [if_neg (by omega), List.drop_of_length_le (by omega), List.drop_of_length_le (by omega)]
    simp
  | d + 1, k, i, hi, hk => by
    obtain ⟨k, rfl⟩ : ∃ q, k = q + 1 := ⟨k - 1, by omega⟩
    have ih := same_l0 x y hl hx d k (i + 1) (by omega) (by omega)
    have hix : i < x.length := by omega
    have hiy : i < y.length := by omega
    simp only [hoodwinkref01_Same.l0]
    rw [if_pos (by omega), if_pos (by omega), if_pos (by omega), if_pos (by omega), next64 (by omega), rd_getElem hix, rd_getElem hiy]
    have e : decide (x.drop i = y.drop i) = decide (x[i] = y[i] ∧ x.drop (i + 1) = y.drop (i + 1)) :=
      decide_eq_decide.2 (by rw [List.drop_eq_getElem_cons hix, List.drop_eq_getElem_cons hiy, List.cons.injEq])
    rw [e]
    by_cases h : x[i] = y[i]
    · rw [if_pos h, ih]; exact congrArg some (decide_eq_decide.2 ⟨fun q => ⟨h, q⟩, fun q => q.2⟩)
    · rw [if_neg h, decide_eq_false (fun q => h q.1)]
theorem same_f (x y : List Int) (hx : x.length ≤ 9223372036854775807) : hoodwinkref01_Same.f (x.length + 1) x y = some (decide (x = y)) := by
  unfold hoodwinkref01_Same.f
  by_cases h : x.length = y.length
  · rw [if_pos (by omega)]
    have := same_l0 x y h hx x.length (x.length + 1) 0 (by omega) (by omega)
    simpa using this
  · rw [if_neg (by omega)]
    have : x ≠ y := fun e => h (by rw [e])
    simp [this]
theorem same_any (A B : Option Addr) (n m c c' : Nat) (x y : List Int) (w : World) (hx : (Kd.int .u8).C w A n x) (hc : n ≤ c) (hy : (Kd.int .u8).C w B m y) (hc' : m ≤ c') :
    Calls Try.prog 12 #[.slice A n c, .slice B m c'] w fun e w' => e = .returned (.bool (decide (x = y))) ∧ Below w.heap.size w w' := by
  have hm := hx.2.1
  obtain rfl := hx.1
  obtain rfl := hy.1
  exact (hoodwinkref01_Same.calls (x.length + 1) A c x B c' y _ w hx hc hy hc' (same_f x y hm)).mono fun e w' ⟨h1, h2⟩ => ⟨h1, h2.below⟩

/-- Bytes that are told. -/
def BvC (w : World) (l : List Int) (v : Value) : Prop := ∃ A c, v = .slice A l.length c ∧ l.length ≤ c ∧ (Kd.int .u8).C w A l.length l
theorem BvC.below {w w' : World} {l : List Int} {v : Value} (h : BvC w l v) (hb : Below w.heap.size w w') : BvC w' l v := by
  obtain ⟨A, c, h1, h2, h3⟩ := h
  exact ⟨A, c, h1, h2, Kd.C_below h3 hb⟩
theorem BvC.of_R {w : World} {b : Nat} {ok : Nat → Prop} {l : List Int} {v : Value} (h : (Kd.int .u8).R 5 w b ok v l) : BvC w l v := by
  obtain ⟨A, c, h1, h2, h3⟩ := Kd.R_reads h
  exact ⟨A, c, h1, h2, h3⟩
/-- A delta that is told. -/
def DvC (w : World) (tk hs : Int) (P : List Int) (C : List S30) (v : Value) : Prop :=
  ∃ A c A2 c2, v = .agg #[.int .u32 tk, .int .u32 hs, .slice A P.length c, .slice A2 C.length c2] ∧ P.length ≤ c ∧ C.length ≤ c2 ∧ (Kd.int .u8).C w A P.length P ∧ k30.C w A2 C.length C
theorem DvC.below {w w' : World} {tk hs : Int} {P : List Int} {C : List S30} {v : Value} (h : DvC w tk hs P C v) (hb : Below w.heap.size w w') : DvC w' tk hs P C v := by
  obtain ⟨A, c, A2, c2, h1, h2, h3, h4, h5⟩ := h
  exact ⟨A, c, A2, c2, h1, h2, h3, Kd.C_below h4 hb, Kd.C_below h5 hb⟩
theorem of_told (f : Nat → S30) (n t : Nat) (o tk : Int) (w : World) (hn : n ≤ 48) (ht : t < 18446744073709551616) (hf : ∀ k, k < n → U32 (f k).f1) :
    Calls Try.prog 13 #[.agg (boardC f n), .int .u64 t, .int .i64 o, .int .u32 tk] w fun e w' => ∃ v, e = .returned v ∧ DvC w' tk (sumB true (listF (viewF f n o) n)) (plL t n) (clL (viewF f n o) t n) v ∧ Below w.heap.size w w' :=
  (of_full f n t o tk w hn ht hf).mono fun e w' ⟨v, h1, h2, h3⟩ => ⟨v, h1, h2.cells, h3⟩
theorem full_told (f : Nat → S30) (n : Nat) (o tk : Int) (w : World) (hn : n ≤ 48) (hf : ∀ k, k < n → U32 (f k).f1) :
    Calls Try.prog 15 #[.agg (boardC f n), .int .i64 o, .int .u32 tk] w fun e w' => ∃ v, e = .returned v ∧ DvC w' tk (sumB true (listF (viewF f n o) n)) (plL allT n) (clL (viewF f n o) allT n) v ∧ Below w.heap.size w w' :=
  (full_any f n o tk w hn hf).mono fun e w' ⟨v, h1, h2, h3⟩ => ⟨v, h1, h2.cells, h3⟩
theorem risB_of : ∀ (l : List Int) (a : Int), l.Pairwise (· < ·) → (∀ x ∈ l, a < x ∧ x < 48) → risB a l = true
  | [], a, _, _ => rfl
  | x :: l, a, hp, h => by
    rw [List.pairwise_cons] at hp
    have hx := h x List.mem_cons_self
    rw [risB_cons, decide_eq_true hx.1, decide_eq_true hx.2, risB_of l x hp.2 (fun y hy => ⟨hp.1 y hy, (h y (List.mem_cons_of_mem _ hy)).2⟩)]; rfl
theorem right_of (f : Nat → S30) (t n : Nat) (hn : n ≤ 48) : rightB (plL t n) (clL f t n).length = true := by
  unfold rightB
  have h1 : (plL t n).length = (clL f t n).length := by unfold plL clL; rw [List.length_map, List.length_map]
  rw [risB_of, h1]
  · simp
  · unfold plL
    rw [List.pairwise_map]
    have : (touchL t n).Pairwise (· < ·) := List.Pairwise.filter _ List.pairwise_lt_range
    exact this.imp (fun h => by omega)
  · intro x hx
    unfold plL touchL at hx
    obtain ⟨k, hk, rfl⟩ := List.mem_map.1 hx
    have := List.mem_range.1 (List.mem_filter.1 hk).1
    omega
theorem touchL_mem {t n k : Nat} (h : k ∈ touchL t n) : k < n := List.mem_range.1 (List.mem_filter.1 h).1
theorem clL_congr {f h : Nat → S30} {t n : Nat} (e : ∀ i, i < n → f i = h i) : clL f t n = clL h t n := List.map_congr_left fun i hi => e i (touchL_mem hi)
theorem bytes_told (tk hs : Nat) (P : List Int) (C : List S30) (v : Value) (w : World) (hv : DvC w tk hs P C v) (hr : rightB P C.length = true) (htk : tk < 4294967296) (hhs : hs < 4294967296) (hU : ∀ x ∈ C, U32 x.f1) :
    Calls Try.prog 14 #[v] w fun e w' => ∃ v', e = .returned v' ∧ BvC w' (dBytes tk hs P C) v' ∧ Below w.heap.size w w' := by
  obtain ⟨A, c, A2, c2, rfl, h2, h3, h4, h5⟩ := hv
  exact (dbytes_yes tk hs A A2 _ c _ c2 P C w h4 h2 h5 h3 hr htk hhs hU).mono fun e w' ⟨v', k1, k2, k3⟩ => ⟨v', k1, BvC.of_R k2, k3⟩
theorem same_told (a b : List Int) (x y : Value) (w : World) (hx : BvC w a x) (hy : BvC w b y) :
    Calls Try.prog 12 #[x, y] w fun e w' => e = .returned (.bool (decide (a = b))) ∧ Below w.heap.size w w' := by
  obtain ⟨A, c, rfl, h1, h2⟩ := hx
  obtain ⟨A2, c2, rfl, h3, h4⟩ := hy
  exact same_any A A2 _ _ c c2 a b w h2 h1 h4 h3
end Go.Proofs.Ytkhlalpkkmjfnaa

namespace Go.Proofs.Ytkhlalpkkmjfnaa
open Go.RowKit Go.Proofs.YtkhlalpkkmjfnaaW.PrintWords Go.Proofs.YtkhlalpkkmjfnaaW.PrintLast Go.Proofs.YtkhlalpkkmjfnaaW.PrintMore
set_option linter.unusedVariables false
set_option linter.unusedSimpArgs false

theorem fL_listF (h : Nat → S30) (m : Nat) (e : ∀ j, ¬ j < m → h j = z30) : fL (listF h m) = h := by
  funext j
  by_cases hj : j < m
  · rw [fL_get (by rw [listF_length]; exact hj), listF_get]
  · rw [e j hj]; unfold fL; rw [List.getD_eq_getElem?_getD, List.getElem?_eq_none (by rw [listF_length]; omega)]; rfl
theorem fL_out {M : List S30} {j : Nat} (h : ¬ j < M.length) : fL M j = z30 := by unfold fL; rw [List.getD_eq_getElem?_getD, List.getElem?_eq_none (by omega)]; rfl
set_option maxRecDepth 100000 in
set_option maxHeartbeats 8000000 in
theorem hides_walk (A : Option Addr) (n c : Nat) (L : List S30) (B2 : Option Addr) (q bc : Nat) (vs : List Int) (t0 o tk0 : Int) (w : World) (hr : k30.C w A n L) (hc : n ≤ c) (hw : ∀ x ∈ L, OkC x) (hrv : (Kd.int .i32).C w B2 q vs) (hcv : q ≤ bc) (hbv : ∀ x ∈ vs, -2147483648 ≤ x ∧ x ≤ 2147483647) (hT : 0 ≤ t0 ∧ t0 ≤ 18446744073709551615) (hO : I64 o) (hK : 0 ≤ tk0 ∧ tk0 ≤ 4294967295) :
    Calls Try.prog 3 #[.slice A n c, .slice B2 q bc, .int .u64 t0, .int .i64 o, .int .u32 tk0] w fun e w' => e = .returned (.bool true) ∧ Below w.heap.size w w' := by
  have HW := Aside0.mk hw
  have HRV := Aside0.mk hrv
  have HQL := Aside0.mk (And.intro hrv.1 hrv.2.1)
  obtain ⟨t, rfl⟩ : ∃ t : Nat, t0 = (t : Int) := ⟨t0.toNat, by omega⟩
  obtain ⟨tk, rfl⟩ : ∃ tk : Nat, tk0 = (tk : Int) := ⟨tk0.toNat, by omega⟩
  have HT : Aside0 (t < 18446744073709551616 ∧ tk < 4294967296) := ⟨by omega, by omega⟩
  clear hw hrv hcv hbv hO hT hK
  have HR := Aside0.mk hr
  have HCAP := Aside0.mk hc
  have hz := zero_board
  have HI := fun f m => Aside0.mk (board_info f m)
  have HO := fun f m => Aside0.mk (boardC_one f m)
  clear hr hc
  go_enter Try.func3, Try.ntmps3
  go_wp2_with fail
  refine (awake7_any _).mono ?_
  rintro e w1 ⟨rfl, hb1⟩
  have HP1 := Aside0.mk ((Hp.start w).call hb1)
  have HR1 := Aside0.mk (Kd.C_below HR.out hb1)
  clear hb1 HR
  go_wp2_with fail
  refine (few7_any _ _ _ L _ HR1.out HCAP.out).mono ?_
  rintro e w2 ⟨v2, rfl, hv2, hb2⟩
  have h48 : (L.take 48).length ≤ 48 := List.length_take_le _ _
  obtain ⟨M, hM⟩ : ∃ M, L.take 48 = M := ⟨_, rfl⟩
  rw [hM] at hv2 h48
  have HM := Aside0.mk hM
  obtain ⟨m, hm⟩ : ∃ m, M.length = m := ⟨_, rfl⟩
  obtain ⟨Q, d, hv, hd, hC⟩ := Kd.R_reads hv2
  rw [hm] at hv hd hC h48
  subst hv
  have HP2 := Aside0.mk (HP1.out.row hb2 hv2)
  have HC2 := Aside0.mk hC
  have HMD := Aside0.mk hd
  have HML := Aside0.mk hm
  have H48 := Aside0.mk h48
  clear hb2 hv2 hd hC hM hm HP1 HR1 HCAP
  have HOK : Aside0 (∀ x ∈ M, OkC x) := ⟨fun x hx => HW.out x (by rw [← HM.out] at hx; exact List.mem_of_mem_take hx)⟩
  clear HW
  go_wp2_with fail
  refine (few7_any Q m d M _ HC2.out HMD.out).mono ?_
  rintro e w3 ⟨v3, rfl, hv3, hb3⟩
  rw [List.take_of_length_le (by rw [HML.out]; exact H48.out)] at hv3
  obtain ⟨f, hf⟩ : ∃ f, fL M = f := ⟨_, rfl⟩
  have HF := Aside0.mk hf
  have HP3 := Aside0.mk ((HP2.out.call hb3).drop (F' := [fun X => k30.R 30 X w.heap.size (fun _ => True) (.slice Q m d) M]) (fun φ h => by rw [List.mem_singleton.1 h]; exact List.mem_cons_self))
  clear hf
  have hq64 : (q : Int) ≤ 9223372036854775807 := by have := HQL.out.2; omega
  rcases cur_of_R hv3 with ⟨hM0, rfl⟩ | ⟨g, dm, cur, rfl, hg1, hg2, hg3, hcu⟩
  · have hm0 : m = 0 := by rw [← HML.out, hM0]; rfl
    rw [show (Value.slice none 0 0) = Value.slice none m 0 by rw [hm0]]
    have HM0 := Aside0.mk (show m ≤ 0 by omega)
    have hmle : ¬ (0 : Int) < m := by omega
    have d0 : decide ((0 : Int) < m) = false := decide_eq_false hmle
    have d0' : decide (0 < m) = false := decide_eq_false (by omega)
    have HPz := Aside0.mk (HP3.out.always (fun X => k30.C X none m (listF (altF f vs o m) m)) (fun W' => by rw [hm0]; exact Kd.C_nil _ _))
    clear hM0 hv3 hb3 HP2 HC2 HP3 hm0
    go_wp2_with fail
    go_loopw [25] (fun v25 wr => v25 = .int .i64 0 ∧ Aside0 (Hp w.heap.size w wr [] [fun X => k30.C X none m (listF (altF f vs o m) m), fun X => k30.R 30 X w.heap.size (fun _ => True) (.slice Q m d) M])) (fun _ _ => 0)
    case atStart => exact ⟨rfl, HPz⟩
    case round =>
      clear HPz
      obtain ⟨rfl, HPz⟩ := hrel
      obtain ⟨h, hh⟩ : ∃ h, altF f vs o m = h := ⟨_, rfl⟩
      rw [hh] at HPz
      have HH := Aside0.mk hh
      clear hh
      have e1 : fL (listF h m) = h := fL_listF h m (fun j hj => by rw [← HH.out]; unfold altF; rw [if_neg (fun hh => hj hh.1), ← HF.out]; exact fL_out (by rw [HML.out]; exact hj))
      have HE1 := Aside0.mk e1
      clear e1
      have HCA := Aside0.mk (Ru_C (HPz.out.fact (i := 1) rfl)).2.2
      go_wp2_with fail
      refine (new_any Q m d M _ HCA.out HMD.out H48.out).mono ?_
      rintro e w5 ⟨rfl, hb5⟩
      have HP5 := Aside0.mk (HPz.out.call hb5)
      rw [HF.out]
      clear hb5 HPz HCA
      have HZ := Aside0.mk (blk_new w5 (.cells (boardC (fun _ => z30) 0) 34))
      have HP6 := Aside0.mk ((HP5.out.alloc (.cells (boardC (fun _ => z30) 0) 34)).setRow (i := 0) rfl (boardC f m))
      clear HP5
      go_wp2_with (first | (refine wpList_store_row rfl 34 (.tmp 13) (.tmp 54) rfl (w5.heap.size) (boardC f m) rfl rfl 34 _ HZ.out (HI _ _).out (by rw [boardC_size, boardC_size]) (HO _ _).out ?_))
      clear HZ
      generalize (w5.alloc (.cells (boardC (fun _ => z30) 0) 34)).setRow w5.heap.size (boardC f m) = w6 at *
      generalize w5.heap.size = ga at *
      have HCB : Aside0 (k30.C w6 none m (listF h m)) := ⟨HP6.out.fact (i := 0) rfl⟩
      refine (new_any none m 0 (listF h m) _ HCB.out HM0.out H48.out).mono ?_
      rintro e w7 ⟨rfl, hb7⟩
      have HP7 := Aside0.mk (HP6.out.call hb7)
      rw [HE1.out]
      clear hb7 HP6 HCB
      have HZ := Aside0.mk (blk_new w7 (.cells (boardC (fun _ => z30) 0) 34))
      have HP8 := Aside0.mk ((HP7.out.alloc (.cells (boardC (fun _ => z30) 0) 34)).setRow (i := 0) rfl (boardC h m))
      clear HP7
      go_wp2_with (first | (refine wpList_store_row rfl 34 (.tmp 15) (.tmp 59) rfl (w7.heap.size) (boardC h m) rfl rfl 34 _ HZ.out (HI _ _).out (by rw [boardC_size, boardC_size]) (HO _ _).out ?_))
      clear HZ
      generalize (w7.alloc (.cells (boardC (fun _ => z30) 0) 34)).setRow w7.heap.size (boardC h m) = w8 at *
      generalize w7.heap.size = gb at *
      have hOK : ∀ i, i < m → U32 (f i).f1 := fun i hi => by
        have hiM : i < M.length := by rw [HML.out]; exact hi
        rw [← HF.out, fL_get hiM]; exact (HOK.out _ (List.getElem_mem hiM)).u32
      have hOKh : ∀ i, i < m → U32 (h i).f1 := fun i hi => by rw [← HH.out, altF_f1]; exact hOK i hi
      have hVo : ∀ i, i < m → viewF h m o i = viewF f m o i := fun i hi => by rw [← HH.out]; exact altF_view f vs o m i hi
      have E3 : sumB true (listF (viewF h m o) m) = sumB true (listF (viewF f m o) m) := by rw [listF_congr hVo]
      have E4 : clL (viewF h m o) t m = clL (viewF f m o) t m := clL_congr hVo
      have E5 : clL (viewF h m o) allT m = clL (viewF f m o) allT m := clL_congr hVo
      have KFA := fun X : World => Aside0.mk (of_told f m t o tk X H48.out HT.out.1 hOK)
      have KFB := fun X : World => Aside0.mk (of_told h m t o tk X H48.out HT.out.1 hOKh)
      have KGA := fun X : World => Aside0.mk (full_told f m o tk X H48.out hOK)
      have KGB := fun X : World => Aside0.mk (full_told h m o tk X H48.out hOKh)
      rw [E3, E4] at KFB
      rw [E3, E5] at KGB
      have HR1 := Aside0.mk (right_of (viewF f m o) t m H48.out)
      have HR2 := Aside0.mk (right_of (viewF f m o) allT m H48.out)
      have HUC1 : Aside0 (∀ x ∈ clL (viewF f m o) t m, U32 x.f1) := ⟨fun x hx => by
        obtain ⟨k, hk, rfl⟩ := List.mem_map.1 hx
        rw [view_f1]; exact hOK k (touchL_mem hk)⟩
      have HUC2 : Aside0 (∀ x ∈ clL (viewF f m o) allT m, U32 x.f1) := ⟨fun x hx => by
        obtain ⟨k, hk, rfl⟩ := List.mem_map.1 hx
        rw [view_f1]; exact hOK k (touchL_mem hk)⟩
      have HHS : Aside0 (sumB true (listF (viewF f m o) m) < 4294967296) := ⟨by unfold sumB sumN; omega⟩
      generalize sumB true (listF (viewF f m o) m) = hs at *
      generalize clL (viewF f m o) t m = C1 at *
      generalize clL (viewF f m o) allT m = C2 at *
      generalize plL t m = P1 at *
      generalize plL allT m = P2 at *
      clear E3 E4 E5 hVo hOK hOKh
      go_wp2_with fail
      refine region_grown (W := w8)
        [fun (w : World) (v : Value) => v = .agg (boardC f m),
         fun (w : World) (v : Value) => v = .int .u64 t,
         fun (w : World) (v : Value) => v = .int .i64 o,
         fun (w : World) (v : Value) => v = .int .u32 tk,
         fun (w : World) (v : Value) => DvC w tk hs P1 C1 v,
         fun (w : World) (v : Value) => BvC w (dBytes tk hs P1 C1) v,
         fun (w : World) (v : Value) => v = .agg (boardC h m),
         fun (w : World) (v : Value) => v = .int .u64 t,
         fun (w : World) (v : Value) => v = .int .i64 o,
         fun (w : World) (v : Value) => v = .int .u32 tk,
         fun (w : World) (v : Value) => DvC w tk hs P1 C1 v,
         fun (w : World) (v : Value) => BvC w (dBytes tk hs P1 C1) v,
         fun (w : World) (v : Value) => v = .bool true,
         fun (w : World) (v : Value) => v = .bool true,
         fun (w : World) (v : Value) => v = .agg (boardC f m),
         fun (w : World) (v : Value) => v = .int .i64 o,
         fun (w : World) (v : Value) => v = .int .u32 tk,
         fun (w : World) (v : Value) => DvC w tk hs P2 C2 v,
         fun (w : World) (v : Value) => BvC w (dBytes tk hs P2 C2) v,
         fun (w : World) (v : Value) => v = .agg (boardC h m),
         fun (w : World) (v : Value) => v = .int .i64 o,
         fun (w : World) (v : Value) => v = .int .u32 tk,
         fun (w : World) (v : Value) => DvC w tk hs P2 C2 v,
         fun (w : World) (v : Value) => BvC w (dBytes tk hs P2 C2) v,
         fun (w : World) (v : Value) => v = .bool true,
         fun (w : World) (v : Value) => v = .bool true,
         fun (w : World) (v : Value) => v = .bool true]
        (fun j => if j = 13 then some true else none)
        [(0, some 61), (1, some 62), (2, some 63), (3, some 64), (4, some 65), (5, some 66), (6, some 67), (7, some 68), (8, some 69), (9, some 70), (10, some 71), (11, some 72), (12, some 73), (13, some 74), (14, some 75), (15, some 76), (16, some 77), (17, some 78), (18, some 79), (19, some 80), (20, some 81), (21, some 82), (22, some 83), (23, some 84), (24, some 85), (25, some 86), (26, some 10)]
        [13]
        (by kernel_rfl) (by kernel_rfl) (by kernel_rfl) (by kernel_rfl) ?r13_1g ?r13_1s ⟨?r13_1o0, ?r13_1o1, ?r13_1o2, ?r13_1o3, ?r13_1o4, ?r13_1o5, ?r13_1o6, ?r13_1o7, ?r13_1o8, ?r13_1o9, ?r13_1o10, ?r13_1o11, ?r13_1o12, ?r13_1o13, ?r13_1o14, ?r13_1o15, ?r13_1o16, ?r13_1o17, ?r13_1o18, ?r13_1o19, ?r13_1o20, ?r13_1o21, ?r13_1o22, ?r13_1o23, ?r13_1o24, ?r13_1o25, ?r13_1o26, trivial⟩ ?r13_1e
      case r13_1g =>
        intro j hj w v hv
        simp only [List.mem_cons, List.not_mem_nil, or_false] at hj
        rcases hj with rfl
        · have hv' : v = .bool true := hv; rw [hv']; rfl
      case r13_1s =>
        refine ⟨(fun w w' v hb h => h), (fun w w' v hb h => h), (fun w w' v hb h => h), (fun w w' v hb h => h), (fun w w' v hb h => h.below hb), (fun w w' v hb h => h.below hb), (fun w w' v hb h => h), (fun w w' v hb h => h), (fun w w' v hb h => h), (fun w w' v hb h => h), (fun w w' v hb h => h.below hb), (fun w w' v hb h => h.below hb), (fun w w' v hb h => h), (fun w w' v hb h => h), (fun w w' v hb h => h), (fun w w' v hb h => h), (fun w w' v hb h => h), (fun w w' v hb h => h.below hb), (fun w w' v hb h => h.below hb), (fun w w' v hb h => h), (fun w w' v hb h => h), (fun w w' v hb h => h), (fun w w' v hb h => h.below hb), (fun w w' v hb h => h.below hb), (fun w w' v hb h => h), (fun w w' v hb h => h), (fun w w' v hb h => h), trivial⟩
      case r13_1o0 =>
        intro vs w hb hV
        rw [if_pos (by kernel_rfl)]
        generalize hρ : rho _ _ _ vs = ρ
        have e13 : ρ (.tmp 13) = .pointer (some ⟨ga, 0, none⟩) := by rw [← hρ]; kernel_rfl
        clear hρ hV
        exact runs_load 34 (.tmp 13) rfl ga e13 34 (boardC f m) (0, 0) _ (((hb.block ga (blk_lt (HP8.out.get (i := 1) rfl))).trans (HP8.out.get (i := 1) rfl))) Try.underlying34 rfl (HI _ _).out ⟨Below.refl _ _, rfl⟩
      case r13_1o1 =>
        intro vs w hb hV
        rw [if_pos (by kernel_rfl)]
        generalize hρ : rho _ _ _ vs = ρ
        have e2 : ρ (.tmp 2) = .int .u64 t := by rw [← hρ]; kernel_rfl
        clear hρ hV
        refine runs_val (v := .int .u64 t) (w' := w) ?_ ⟨Below.refl _ _, rfl⟩
        go_simp <;> (first | exact IntWalk.u64_in _ (by omega) | exact IntWalk.u32_in _ (by omega) | exact IntWalk.u16_in _ (by omega) | exact IntWalk.u8_in _ (by omega) | exact IntWalk.i64_in _ (by omega) | skip)
      case r13_1o2 =>
        intro vs w hb hV
        rw [if_pos (by kernel_rfl)]
        generalize hρ : rho _ _ _ vs = ρ
        have e3 : ρ (.tmp 3) = .int .i64 o := by rw [← hρ]; kernel_rfl
        clear hρ hV
        refine runs_val (v := .int .i64 o) (w' := w) ?_ ⟨Below.refl _ _, rfl⟩
        go_simp <;> (first | exact IntWalk.u64_in _ (by omega) | exact IntWalk.u32_in _ (by omega) | exact IntWalk.u16_in _ (by omega) | exact IntWalk.u8_in _ (by omega) | exact IntWalk.i64_in _ (by omega) | skip)
      case r13_1o3 =>
        intro vs w hb hV
        rw [if_pos (by kernel_rfl)]
        generalize hρ : rho _ _ _ vs = ρ
        have e4 : ρ (.tmp 4) = .int .u32 tk := by rw [← hρ]; kernel_rfl
        clear hρ hV
        refine runs_val (v := .int .u32 tk) (w' := w) ?_ ⟨Below.refl _ _, rfl⟩
        go_simp <;> (first | exact IntWalk.u64_in _ (by omega) | exact IntWalk.u32_in _ (by omega) | exact IntWalk.u16_in _ (by omega) | exact IntWalk.u8_in _ (by omega) | exact IntWalk.i64_in _ (by omega) | skip)
      case r13_1o4 =>
        intro vs w hb hV
        rw [if_pos (by kernel_rfl)]
        generalize hρ : rho _ _ _ vs = ρ
        have d61 : (vs 0) = .agg (boardC f m) := hV 0 (by kernel_rfl)
        have e61 : ρ (.tmp 61) = vs 0 := by rw [← hρ]; kernel_rfl
        rw [d61] at e61; clear d61
        have d62 : (vs 1) = .int .u64 t := hV 1 (by kernel_rfl)
        have e62 : ρ (.tmp 62) = vs 1 := by rw [← hρ]; kernel_rfl
        rw [d62] at e62; clear d62
        have d63 : (vs 2) = .int .i64 o := hV 2 (by kernel_rfl)
        have e63 : ρ (.tmp 63) = vs 2 := by rw [← hρ]; kernel_rfl
        rw [d63] at e63; clear d63
        have d64 : (vs 3) = .int .u32 tk := hV 3 (by kernel_rfl)
        have e64 : ρ (.tmp 64) = vs 3 := by rw [← hρ]; kernel_rfl
        rw [d64] at e64; clear d64
        have ef13 : ρ (.func 13) = .func (.func 13) #[] #[] := by rw [← hρ]; rfl
        clear hρ hV
        refine runs_call (f := 13) (args := #[.agg (boardC f m), .int .u64 t, .int .i64 o, .int .u32 tk]) (w' := w) ?_ ?_
        · go_simp
        · refine (KFA _).out.mono ?_
          rintro e w5 ⟨v, rfl, hv, hb5⟩
          exact ⟨_, rfl, hb5, hv⟩
      case r13_1o5 =>
        intro vs w hb hV
        rw [if_pos (by kernel_rfl)]
        generalize hρ : rho _ _ _ vs = ρ
        have d65 : (fun (w : World) (v : Value) => DvC w tk hs P1 C1 v) w (vs 4) := hV 4 (by kernel_rfl)
        have e65 : ρ (.tmp 65) = vs 4 := by rw [← hρ]; kernel_rfl
        have ef14 : ρ (.func 14) = .func (.func 14) #[] #[] := by rw [← hρ]; rfl
        clear hρ hV
        refine runs_call (f := 14) (args := #[vs 4]) (w' := w) ?_ ?_
        · go_simp
        · refine (bytes_told tk hs P1 C1 _ _ d65 HR1.out HT.out.2 HHS.out HUC1.out).mono ?_
          rintro e w5 ⟨v, rfl, hv, hb5⟩
          exact ⟨_, rfl, hb5, hv⟩
      case r13_1o6 =>
        intro vs w hb hV
        rw [if_pos (by kernel_rfl)]
        generalize hρ : rho _ _ _ vs = ρ
        have e15 : ρ (.tmp 15) = .pointer (some ⟨gb, 0, none⟩) := by rw [← hρ]; kernel_rfl
        clear hρ hV
        exact runs_load 34 (.tmp 15) rfl gb e15 34 (boardC h m) (0, 0) _ (((hb.block gb (blk_lt (HP8.out.get (i := 0) rfl))).trans (HP8.out.get (i := 0) rfl))) Try.underlying34 rfl (HI _ _).out ⟨Below.refl _ _, rfl⟩
      case r13_1o7 =>
        intro vs w hb hV
        rw [if_pos (by kernel_rfl)]
        generalize hρ : rho _ _ _ vs = ρ
        have e2 : ρ (.tmp 2) = .int .u64 t := by rw [← hρ]; kernel_rfl
        clear hρ hV
        refine runs_val (v := .int .u64 t) (w' := w) ?_ ⟨Below.refl _ _, rfl⟩
        go_simp <;> (first | exact IntWalk.u64_in _ (by omega) | exact IntWalk.u32_in _ (by omega) | exact IntWalk.u16_in _ (by omega) | exact IntWalk.u8_in _ (by omega) | exact IntWalk.i64_in _ (by omega) | skip)
      case r13_1o8 =>
        intro vs w hb hV
        rw [if_pos (by kernel_rfl)]
        generalize hρ : rho _ _ _ vs = ρ
        have e3 : ρ (.tmp 3) = .int .i64 o := by rw [← hρ]; kernel_rfl
        clear hρ hV
        refine runs_val (v := .int .i64 o) (w' := w) ?_ ⟨Below.refl _ _, rfl⟩
        go_simp <;> (first | exact IntWalk.u64_in _ (by omega) | exact IntWalk.u32_in _ (by omega) | exact IntWalk.u16_in _ (by omega) | exact IntWalk.u8_in _ (by omega) | exact IntWalk.i64_in _ (by omega) | skip)
      case r13_1o9 =>
        intro vs w hb hV
        rw [if_pos (by kernel_rfl)]
        generalize hρ : rho _ _ _ vs = ρ
        have e4 : ρ (.tmp 4) = .int .u32 tk := by rw [← hρ]; kernel_rfl
        clear hρ hV
        refine runs_val (v := .int .u32 tk) (w' := w) ?_ ⟨Below.refl _ _, rfl⟩
        go_simp <;> (first | exact IntWalk.u64_in _ (by omega) | exact IntWalk.u32_in _ (by omega) | exact IntWalk.u16_in _ (by omega) | exact IntWalk.u8_in _ (by omega) | exact IntWalk.i64_in _ (by omega) | skip)
      case r13_1o10 =>
        intro vs w hb hV
        rw [if_pos (by kernel_rfl)]
        generalize hρ : rho _ _ _ vs = ρ
        have d67 : (vs 6) = .agg (boardC h m) := hV 6 (by kernel_rfl)
        have e67 : ρ (.tmp 67) = vs 6 := by rw [← hρ]; kernel_rfl
        rw [d67] at e67; clear d67
        have d68 : (vs 7) = .int .u64 t := hV 7 (by kernel_rfl)
        have e68 : ρ (.tmp 68) = vs 7 := by rw [← hρ]; kernel_rfl
        rw [d68] at e68; clear d68
        have d69 : (vs 8) = .int .i64 o := hV 8 (by kernel_rfl)
        have e69 : ρ (.tmp 69) = vs 8 := by rw [← hρ]; kernel_rfl
        rw [d69] at e69; clear d69
        have d70 : (vs 9) = .int .u32 tk := hV 9 (by kernel_rfl)
        have e70 : ρ (.tmp 70) = vs 9 := by rw [← hρ]; kernel_rfl
        rw [d70] at e70; clear d70
        have ef13 : ρ (.func 13) = .func (.func 13) #[] #[] := by rw [← hρ]; rfl
        clear hρ hV
        refine runs_call (f := 13) (args := #[.agg (boardC h m), .int .u64 t, .int .i64 o, .int .u32 tk]) (w' := w) ?_ ?_
        · go_simp
        · refine (KFB _).out.mono ?_
          rintro e w5 ⟨v, rfl, hv, hb5⟩
          exact ⟨_, rfl, hb5, hv⟩
      case r13_1o11 =>
        intro vs w hb hV
        rw [if_pos (by kernel_rfl)]
        generalize hρ : rho _ _ _ vs = ρ
        have d71 : (fun (w : World) (v : Value) => DvC w tk hs P1 C1 v) w (vs 10) := hV 10 (by kernel_rfl)
        have e71 : ρ (.tmp 71) = vs 10 := by rw [← hρ]; kernel_rfl
        have ef14 : ρ (.func 14) = .func (.func 14) #[] #[] := by rw [← hρ]; rfl
        clear hρ hV
        refine runs_call (f := 14) (args := #[vs 10]) (w' := w) ?_ ?_
        · go_simp
        · refine (bytes_told tk hs P1 C1 _ _ d71 HR1.out HT.out.2 HHS.out HUC1.out).mono ?_
          rintro e w5 ⟨v, rfl, hv, hb5⟩
          exact ⟨_, rfl, hb5, hv⟩
      case r13_1o12 =>
        intro vs w hb hV
        rw [if_pos (by kernel_rfl)]
        generalize hρ : rho _ _ _ vs = ρ
        have d66 : (fun (w : World) (v : Value) => BvC w (dBytes tk hs P1 C1) v) w (vs 5) := hV 5 (by kernel_rfl)
        have e66 : ρ (.tmp 66) = vs 5 := by rw [← hρ]; kernel_rfl
        have d72 : (fun (w : World) (v : Value) => BvC w (dBytes tk hs P1 C1) v) w (vs 11) := hV 11 (by kernel_rfl)
        have e72 : ρ (.tmp 72) = vs 11 := by rw [← hρ]; kernel_rfl
        have ef12 : ρ (.func 12) = .func (.func 12) #[] #[] := by rw [← hρ]; rfl
        clear hρ hV
        refine runs_call (f := 12) (args := #[vs 5, vs 11]) (w' := w) ?_ ?_
        · go_simp
        · refine (same_told _ _ _ _ _ d66 d72).mono ?_
          rintro e w5 ⟨rfl, hb5⟩
          exact ⟨_, rfl, hb5, by simp⟩
      case r13_1o13 =>
        intro vs w hb hV
        rw [if_pos (by kernel_rfl)]
        generalize hρ : rho _ _ _ vs = ρ
        have d73 : (vs 12) = .bool true := hV 12 (by kernel_rfl)
        have e73 : ρ (.tmp 73) = vs 12 := by rw [← hρ]; kernel_rfl
        clear hρ hV
        refine runs_val (v := vs 12) (w' := w) ?_ ⟨Below.refl _ _, d73⟩
        go_simp
      case r13_1o14 =>
        intro vs w hb hV
        rw [if_pos (by kernel_rfl)]
        generalize hρ : rho _ _ _ vs = ρ
        have e13 : ρ (.tmp 13) = .pointer (some ⟨ga, 0, none⟩) := by rw [← hρ]; kernel_rfl
        clear hρ hV
        exact runs_load 34 (.tmp 13) rfl ga e13 34 (boardC f m) (0, 0) _ (((hb.block ga (blk_lt (HP8.out.get (i := 1) rfl))).trans (HP8.out.get (i := 1) rfl))) Try.underlying34 rfl (HI _ _).out ⟨Below.refl _ _, rfl⟩
      case r13_1o15 =>
        intro vs w hb hV
        rw [if_pos (by kernel_rfl)]
        generalize hρ : rho _ _ _ vs = ρ
        have e3 : ρ (.tmp 3) = .int .i64 o := by rw [← hρ]; kernel_rfl
        clear hρ hV
        refine runs_val (v := .int .i64 o) (w' := w) ?_ ⟨Below.refl _ _, rfl⟩
        go_simp <;> (first | exact IntWalk.u64_in _ (by omega) | exact IntWalk.u32_in _ (by omega) | exact IntWalk.u16_in _ (by omega) | exact IntWalk.u8_in _ (by omega) | exact IntWalk.i64_in _ (by omega) | skip)
      case r13_1o16 =>
        intro vs w hb hV
        rw [if_pos (by kernel_rfl)]
        generalize hρ : rho _ _ _ vs = ρ
        have e4 : ρ (.tmp 4) = .int .u32 tk := by rw [← hρ]; kernel_rfl
        clear hρ hV
        refine runs_val (v := .int .u32 tk) (w' := w) ?_ ⟨Below.refl _ _, rfl⟩
        go_simp <;> (first | exact IntWalk.u64_in _ (by omega) | exact IntWalk.u32_in _ (by omega) | exact IntWalk.u16_in _ (by omega) | exact IntWalk.u8_in _ (by omega) | exact IntWalk.i64_in _ (by omega) | skip)
      case r13_1o17 =>
        intro vs w hb hV
        rw [if_pos (by kernel_rfl)]
        generalize hρ : rho _ _ _ vs = ρ
        have d75 : (vs 14) = .agg (boardC f m) := hV 14 (by kernel_rfl)
        have e75 : ρ (.tmp 75) = vs 14 := by rw [← hρ]; kernel_rfl
        rw [d75] at e75; clear d75
        have d76 : (vs 15) = .int .i64 o := hV 15 (by kernel_rfl)
        have e76 : ρ (.tmp 76) = vs 15 := by rw [← hρ]; kernel_rfl
        rw [d76] at e76; clear d76
        have d77 : (vs 16) = .int .u32 tk := hV 16 (by kernel_rfl)
        have e77 : ρ (.tmp 77) = vs 16 := by rw [← hρ]; kernel_rfl
        rw [d77] at e77; clear d77
        have ef15 : ρ (.func 15) = .func (.func 15) #[] #[] := by rw [← hρ]; rfl
        clear hρ hV
        refine runs_call (f := 15) (args := #[.agg (boardC f m), .int .i64 o, .int .u32 tk]) (w' := w) ?_ ?_
        · go_simp
        · refine (KGA _).out.mono ?_
          rintro e w5 ⟨v, rfl, hv, hb5⟩
          exact ⟨_, rfl, hb5, hv⟩
      case r13_1o18 =>
        intro vs w hb hV
        rw [if_pos (by kernel_rfl)]
        generalize hρ : rho _ _ _ vs = ρ
        have d78 : (fun (w : World) (v : Value) => DvC w tk hs P2 C2 v) w (vs 17) := hV 17 (by kernel_rfl)
        have e78 : ρ (.tmp 78) = vs 17 := by rw [← hρ]; kernel_rfl
        have ef14 : ρ (.func 14) = .func (.func 14) #[] #[] := by rw [← hρ]; rfl
        clear hρ hV
        refine runs_call (f := 14) (args := #[vs 17]) (w' := w) ?_ ?_
        · go_simp
        · refine (bytes_told tk hs P2 C2 _ _ d78 HR2.out HT.out.2 HHS.out HUC2.out).mono ?_
          rintro e w5 ⟨v, rfl, hv, hb5⟩
          exact ⟨_, rfl, hb5, hv⟩
      case r13_1o19 =>
        intro vs w hb hV
        rw [if_pos (by kernel_rfl)]
        generalize hρ : rho _ _ _ vs = ρ
        have e15 : ρ (.tmp 15) = .pointer (some ⟨gb, 0, none⟩) := by rw [← hρ]; kernel_rfl
        clear hρ hV
        exact runs_load 34 (.tmp 15) rfl gb e15 34 (boardC h m) (0, 0) _ (((hb.block gb (blk_lt (HP8.out.get (i := 0) rfl))).trans (HP8.out.get (i := 0) rfl))) Try.underlying34 rfl (HI _ _).out ⟨Below.refl _ _, rfl⟩
      case r13_1o20 =>
        intro vs w hb hV
        rw [if_pos (by kernel_rfl)]
        generalize hρ : rho _ _ _ vs = ρ
        have e3 : ρ (.tmp 3) = .int .i64 o := by rw [← hρ]; kernel_rfl
        clear hρ hV
        refine runs_val (v := .int .i64 o) (w' := w) ?_ ⟨Below.refl _ _, rfl⟩
        go_simp <;> (first | exact IntWalk.u64_in _ (by omega) | exact IntWalk.u32_in _ (by omega) | exact IntWalk.u16_in _ (by omega) | exact IntWalk.u8_in _ (by omega) | exact IntWalk.i64_in _ (by omega) | skip)
      case r13_1o21 =>
        intro vs w hb hV
        rw [if_pos (by kernel_rfl)]
        generalize hρ : rho _ _ _ vs = ρ
        have e4 : ρ (.tmp 4) = .int .u32 tk := by rw [← hρ]; kernel_rfl
        clear hρ hV
        refine runs_val (v := .int .u32 tk) (w' := w) ?_ ⟨Below.refl _ _, rfl⟩
        go_simp <;> (first | exact IntWalk.u64_in _ (by omega) | exact IntWalk.u32_in _ (by omega) | exact IntWalk.u16_in _ (by omega) | exact IntWalk.u8_in _ (by omega) | exact IntWalk.i64_in _ (by omega) | skip)
      case r13_1o22 =>
        intro vs w hb hV
        rw [if_pos (by kernel_rfl)]
        generalize hρ : rho _ _ _ vs = ρ
        have d80 : (vs 19) = .agg (boardC h m) := hV 19 (by kernel_rfl)
        have e80 : ρ (.tmp 80) = vs 19 := by rw [← hρ]; kernel_rfl
        rw [d80] at e80; clear d80
        have d81 : (vs 20) = .int .i64 o := hV 20 (by kernel_rfl)
        have e81 : ρ (.tmp 81) = vs 20 := by rw [← hρ]; kernel_rfl
        rw [d81] at e81; clear d81
        have d82 : (vs 21) = .int .u32 tk := hV 21 (by kernel_rfl)
        have e82 : ρ (.tmp 82) = vs 21 := by rw [← hρ]; kernel_rfl
        rw [d82] at e82; clear d82
        have ef15 : ρ (.func 15) = .func (.func 15) #[] #[] := by rw [← hρ]; rfl
        clear hρ hV
        refine runs_call (f := 15) (args := #[.agg (boardC h m), .int .i64 o, .int .u32 tk]) (w' := w) ?_ ?_
        · go_simp
        · refine (KGB _).out.mono ?_
          rintro e w5 ⟨v, rfl, hv, hb5⟩
          exact ⟨_, rfl, hb5, hv⟩
      case r13_1o23 =>
        intro vs w hb hV
        rw [if_pos (by kernel_rfl)]
        generalize hρ : rho _ _ _ vs = ρ
        have d83 : (fun (w : World) (v : Value) => DvC w tk hs P2 C2 v) w (vs 22) := hV 22 (by kernel_rfl)
        have e83 : ρ (.tmp 83) = vs 22 := by rw [← hρ]; kernel_rfl
        have ef14 : ρ (.func 14) = .func (.func 14) #[] #[] := by rw [← hρ]; rfl
        clear hρ hV
        refine runs_call (f := 14) (args := #[vs 22]) (w' := w) ?_ ?_
        · go_simp
        · refine (bytes_told tk hs P2 C2 _ _ d83 HR2.out HT.out.2 HHS.out HUC2.out).mono ?_
          rintro e w5 ⟨v, rfl, hv, hb5⟩
          exact ⟨_, rfl, hb5, hv⟩
      case r13_1o24 =>
        intro vs w hb hV
        rw [if_pos (by kernel_rfl)]
        generalize hρ : rho _ _ _ vs = ρ
        have d79 : (fun (w : World) (v : Value) => BvC w (dBytes tk hs P2 C2) v) w (vs 18) := hV 18 (by kernel_rfl)
        have e79 : ρ (.tmp 79) = vs 18 := by rw [← hρ]; kernel_rfl
        have d84 : (fun (w : World) (v : Value) => BvC w (dBytes tk hs P2 C2) v) w (vs 23) := hV 23 (by kernel_rfl)
        have e84 : ρ (.tmp 84) = vs 23 := by rw [← hρ]; kernel_rfl
        have ef12 : ρ (.func 12) = .func (.func 12) #[] #[] := by rw [← hρ]; rfl
        clear hρ hV
        refine runs_call (f := 12) (args := #[vs 18, vs 23]) (w' := w) ?_ ?_
        · go_simp
        · refine (same_told _ _ _ _ _ d79 d84).mono ?_
          rintro e w5 ⟨rfl, hb5⟩
          exact ⟨_, rfl, hb5, by simp⟩
      case r13_1o25 =>
        intro vs w hb hV
        rw [if_pos (by kernel_rfl)]
        generalize hρ : rho _ _ _ vs = ρ
        have d74 : (vs 13) = .bool true := hV 13 (by kernel_rfl)
        have e74 : ρ (.tmp 74) = vs 13 := by rw [← hρ]; kernel_rfl
        rw [d74] at e74; clear d74
        have d85 : (vs 24) = .bool true := hV 24 (by kernel_rfl)
        have e85 : ρ (.tmp 85) = vs 24 := by rw [← hρ]; kernel_rfl
        rw [d85] at e85; clear d85
        have econ : ∀ v : Value, ρ (.const v) = v := fun v => by rw [← hρ]; rfl
        clear hρ hV
        refine runs_val (v := .bool true) (w' := w) ?_ ⟨Below.refl _ _, rfl⟩
        go_simp <;> (first | exact IntWalk.u64_in _ (by omega) | exact IntWalk.u32_in _ (by omega) | exact IntWalk.u16_in _ (by omega) | exact IntWalk.u8_in _ (by omega) | exact IntWalk.i64_in _ (by omega) | skip)
      case r13_1o26 =>
        intro vs w hb hV
        rw [if_pos (by kernel_rfl)]
        generalize hρ : rho _ _ _ vs = ρ
        have d86 : (vs 25) = .bool true := hV 25 (by kernel_rfl)
        have e86 : ρ (.tmp 86) = vs 25 := by rw [← hρ]; kernel_rfl
        clear hρ hV
        refine runs_val (v := vs 25) (w' := w) ?_ ⟨Below.refl _ _, d86⟩
        go_simp
      case r13_1e =>
        intro vs w9 hb9 hV
        have d61 : (vs 0) = .agg (boardC f m) := hV 0 (Nat.le_of_ble_eq_true rfl)
        have d62 : (vs 1) = .int .u64 t := hV 1 (Nat.le_of_ble_eq_true rfl)
        have d63 : (vs 2) = .int .i64 o := hV 2 (Nat.le_of_ble_eq_true rfl)
        have d64 : (vs 3) = .int .u32 tk := hV 3 (Nat.le_of_ble_eq_true rfl)
        have d65 : (fun (w : World) (v : Value) => DvC w tk hs P1 C1 v) w9 (vs 4) := hV 4 (Nat.le_of_ble_eq_true rfl)
        have d66 : (fun (w : World) (v : Value) => BvC w (dBytes tk hs P1 C1) v) w9 (vs 5) := hV 5 (Nat.le_of_ble_eq_true rfl)
        have d67 : (vs 6) = .agg (boardC h m) := hV 6 (Nat.le_of_ble_eq_true rfl)
        have d68 : (vs 7) = .int .u64 t := hV 7 (Nat.le_of_ble_eq_true rfl)
        have d69 : (vs 8) = .int .i64 o := hV 8 (Nat.le_of_ble_eq_true rfl)
        have d70 : (vs 9) = .int .u32 tk := hV 9 (Nat.le_of_ble_eq_true rfl)
        have d71 : (fun (w : World) (v : Value) => DvC w tk hs P1 C1 v) w9 (vs 10) := hV 10 (Nat.le_of_ble_eq_true rfl)
        have d72 : (fun (w : World) (v : Value) => BvC w (dBytes tk hs P1 C1) v) w9 (vs 11) := hV 11 (Nat.le_of_ble_eq_true rfl)
        have d73 : (vs 12) = .bool true := hV 12 (Nat.le_of_ble_eq_true rfl)
        have d74 : (vs 13) = .bool true := hV 13 (Nat.le_of_ble_eq_true rfl)
        have d75 : (vs 14) = .agg (boardC f m) := hV 14 (Nat.le_of_ble_eq_true rfl)
        have d76 : (vs 15) = .int .i64 o := hV 15 (Nat.le_of_ble_eq_true rfl)
        have d77 : (vs 16) = .int .u32 tk := hV 16 (Nat.le_of_ble_eq_true rfl)
        have d78 : (fun (w : World) (v : Value) => DvC w tk hs P2 C2 v) w9 (vs 17) := hV 17 (Nat.le_of_ble_eq_true rfl)
        have d79 : (fun (w : World) (v : Value) => BvC w (dBytes tk hs P2 C2) v) w9 (vs 18) := hV 18 (Nat.le_of_ble_eq_true rfl)
        have d80 : (vs 19) = .agg (boardC h m) := hV 19 (Nat.le_of_ble_eq_true rfl)
        have d81 : (vs 20) = .int .i64 o := hV 20 (Nat.le_of_ble_eq_true rfl)
        have d82 : (vs 21) = .int .u32 tk := hV 21 (Nat.le_of_ble_eq_true rfl)
        have d83 : (fun (w : World) (v : Value) => DvC w tk hs P2 C2 v) w9 (vs 22) := hV 22 (Nat.le_of_ble_eq_true rfl)
        have d84 : (fun (w : World) (v : Value) => BvC w (dBytes tk hs P2 C2) v) w9 (vs 23) := hV 23 (Nat.le_of_ble_eq_true rfl)
        have d85 : (vs 24) = .bool true := hV 24 (Nat.le_of_ble_eq_true rfl)
        have d86 : (vs 25) = .bool true := hV 25 (Nat.le_of_ble_eq_true rfl)
        have d10 : (vs 26) = .bool true := hV 26 (Nat.le_of_ble_eq_true rfl)
        clear hV
        simp only [putAll]
        rw [d61, d62, d63, d64, d67, d68, d69, d70, d73, d74, d75, d76, d77, d80, d81, d82, d85, d86, d10]
        clear d61 d62 d63 d64 d67 d68 d69 d70 d73 d74 d75 d76 d77 d80 d81 d82 d85 d86 d10
        generalize vs 4 = v65 at *
        generalize vs 5 = v66 at *
        generalize vs 10 = v71 at *
        generalize vs 11 = v72 at *
        generalize vs 17 = v78 at *
        generalize vs 18 = v79 at *
        generalize vs 22 = v83 at *
        generalize vs 23 = v84 at *
        clear vs
        simp only [Act.put, List.setIfInBounds_toArray, List.set_cons_zero, List.set_cons_succ]
        have HP9 := Aside0.mk (HP8.out.call hb9)
        clear hb9 d65 d66 d71 d72 d78 d79 d83 d84
        go_wp2_with fail
        go_ret
        exact ⟨rfl, HP9.out.bel⟩
  · rw [HML.out] at hg2 hcu
    rw [HML.out]
    rw [HF.out] at hcu
    have HP4 := Aside0.mk (show Hp w.heap.size w w3 [(g, .cells cur 30 (0, 0))] [fun X => k30.R 30 X w.heap.size (fun _ => True) (.slice Q m d) M] from ((HP2.out.found hb3 hg1 hg3).drop (fun φ h => by rw [List.mem_singleton.1 h]; exact List.mem_cons_self)))
    have HCU : Aside0 (Cur cur m (altF f vs o 0)) := ⟨by rw [altF_zero]; exact hcu⟩
    have HDM := Aside0.mk hg2
    clear hv3 hb3 HP2 HC2 HP3 hg1 hg2 hg3 hcu
    go_wp2_with fail
    go_loopw [25] (fun v25 wr => ∃ i : Nat, i ≤ m ∧ v25 = .int .i64 i ∧ Aside0 (∃ cur, Hp w.heap.size w wr [(g, .cells cur 30 (0, 0))] [fun X => k30.R 30 X w.heap.size (fun _ => True) (.slice Q m d) M] ∧ Cur cur m (altF f vs o i))) (fun v25 _ => m - (intOf v25).toNat)
    case atStart => exact ⟨0, by omega, rfl, ⟨cur, HP4.out, HCU.out⟩⟩
    case round =>
      clear HP4 HCU
      obtain ⟨i, hi, rfl, H⟩ := hrel
      by_cases hlt : i < m
      · obtain ⟨cu, HQ⟩ := H.out
        have HQ := Aside0.mk HQ
        have d1 : decide (i < m) = true := decide_eq_true hlt
        have hi48 : (i : Int) < m := by omega
        have hi0 : (0 : Int) ≤ i := by omega
        have hm48 : m ≤ 48 := H48.out
        have c1 : wr.cell? ⟨g, i * 2 + 1, none⟩ = some (.int .u32 (f i).f1) := by
          have := (blk_cell (HQ.out.1.get (i := 0) rfl) (2 * i + 1)).trans (HQ.out.2 i hlt).2
          rw [altF_f1, Nat.mul_comm] at this
          exact this
        have c0 : wr.cell? ⟨g, i * 2, none⟩ = some (.int .i32 (f i).f0) := by
          have := (blk_cell (HQ.out.1.get (i := 0) rfl) (2 * i)).trans (HQ.out.2 i hlt).1
          rw [altF_self, Nat.mul_comm] at this
          exact this
        have HLT := Aside0.mk hlt
        clear H
        by_cases hiq : i < q
        · have d2 : decide (i < q) = true := decide_eq_true hiq
          have hiq' : (i : Int) < q := by omega
          have KH := fun X : World => Aside0.mk (has_any (f i).f1 o X)
          cases hh : hasB (f i).f1 o with
          | true =>
            rw [hh] at KH
            have HK := Aside0.mk (altF_keep f vs o i (fun h => by rw [hh] at h; cases h.2))
            clear hh
            go_wp2_with fail
            refine (KH _).out.mono ?_
            rintro e z1 ⟨rfl, nd, rfl⟩
            have H2 : Aside0 (∃ cur, Hp w.heap.size w (wr.drewN nd) [(g, .cells cur 30 (0, 0))] [fun X => k30.R 30 X w.heap.size (fun _ => True) (.slice Q m d) M] ∧ Cur cur m (altF f vs o (i + 1))) := ⟨cu, HQ.out.1.drewN nd, by rw [HK.out]; exact HQ.out.2⟩
            clear HQ KH HK c0 c1
            go_wp2_with fail
            go_roundw
            case rel => exact ⟨i + 1, by omega, by go_num, H2⟩
            case measure => simp [intOf]; omega
          | false =>
            rw [hh] at KH
            have hvl : i < vs.length := by rw [HQL.out.1]; exact hiq
            have HK := Aside0.mk (altF_step f vs o i hvl hh)
            clear hh
            go_wp2_with fail
            refine (KH _).out.mono ?_
            rintro e z1 ⟨rfl, nd, rfl⟩
            have G1 := Aside0.mk (HQ.out.1.drewN nd)
            have HC := Aside0.mk HQ.out.2
            clear HQ KH c1
            obtain ⟨bd, hbd, v0⟩ := int_at (Kd.C_below HRV.out G1.out.bel) i hvl
            have HVI := Aside0.mk hvl
            subst hbd
            have f0' : (wr.drewN nd).frozen? ⟨g, i * 2, none⟩ = false := blk_frozen (G1.out.get (i := 0) rfl) (i * 2)
            have H2 : Aside0 (∃ cur, Hp w.heap.size w ((wr.drewN nd).setCell ⟨g, i * 2, none⟩ (.int .i32 vs[i])) [(g, .cells cur 30 (0, 0))] [fun X => k30.R 30 X w.heap.size (fun _ => True) (.slice Q m d) M] ∧ Cur cur m (altF f vs o (i + 1))) := ⟨_, G1.out.setCell (i := 0) rfl (i * 2) (.int .i32 vs[i]), by rw [HK.out, Nat.mul_comm]; exact HC.out.setlo HLT.out _⟩
            clear G1 HC HK
            go_wp2_with fail
            go_roundw
            case rel => exact ⟨i + 1, by omega, by go_num, H2⟩
            case measure => simp [intOf]; omega
        · have d2 : decide (i < q) = false := decide_eq_false hiq
          have hiq' : ¬ (i : Int) < q := by omega
          have HK := Aside0.mk (altF_keep f vs o i (fun h => by have := HQL.out.1; omega))
          have H2 : Aside0 (∃ cur, Hp w.heap.size w wr [(g, .cells cur 30 (0, 0))] [fun X => k30.R 30 X w.heap.size (fun _ => True) (.slice Q m d) M] ∧ Cur cur m (altF f vs o (i + 1))) := ⟨cu, HQ.out.1, by rw [HK.out]; exact HQ.out.2⟩
          clear HQ HK c0 c1
          go_wp2_with fail
          go_roundw
          case rel => exact ⟨i + 1, by omega, by go_num, H2⟩
          case measure => simp [intOf]; omega
      · obtain ⟨cu, HQ⟩ := H.out
        obtain rfl : m = i := by omega
        have d1 : decide (m < m) = false := decide_eq_false (by omega)
        have HPz := Aside0.mk (HQ.1.freeze (fun X => k30.C X (some ⟨g, 0, none⟩) m (listF (altF f vs o m) m)) (fun W' hW' => C_of_cur hW' HQ.2 (by have := H48.out; omega)))
        clear H hi hlt HQ
        obtain ⟨h, hh⟩ : ∃ h, altF f vs o m = h := ⟨_, rfl⟩
        rw [hh] at HPz
        have HH := Aside0.mk hh
        clear hh
        have e1 : fL (listF h m) = h := fL_listF h m (fun j hj => by rw [← HH.out]; unfold altF; rw [if_neg (fun hh => hj hh.1), ← HF.out]; exact fL_out (by rw [HML.out]; exact hj))
        have HE1 := Aside0.mk e1
        clear e1
        have HCA := Aside0.mk (Ru_C (HPz.out.fact (i := 1) rfl)).2.2
        go_wp2_with fail
        refine (new_any Q m d M _ HCA.out HMD.out H48.out).mono ?_
        rintro e w5 ⟨rfl, hb5⟩
        have HP5 := Aside0.mk (HPz.out.call hb5)
        rw [HF.out]
        clear hb5 HPz HCA
        have HZ := Aside0.mk (blk_new w5 (.cells (boardC (fun _ => z30) 0) 34))
        have HP6 := Aside0.mk ((HP5.out.alloc (.cells (boardC (fun _ => z30) 0) 34)).setRow (i := 0) rfl (boardC f m))
        clear HP5
        go_wp2_with (first | (refine wpList_store_row rfl 34 (.tmp 13) (.tmp 54) rfl (w5.heap.size) (boardC f m) rfl rfl 34 _ HZ.out (HI _ _).out (by rw [boardC_size, boardC_size]) (HO _ _).out ?_))
        clear HZ
        generalize (w5.alloc (.cells (boardC (fun _ => z30) 0) 34)).setRow w5.heap.size (boardC f m) = w6 at *
        generalize w5.heap.size = ga at *
        have HCB : Aside0 (k30.C w6 (some ⟨g, 0, none⟩) m (listF h m)) := ⟨HP6.out.fact (i := 0) rfl⟩
        refine (new_any (some ⟨g, 0, none⟩) m dm (listF h m) _ HCB.out HDM.out H48.out).mono ?_
        rintro e w7 ⟨rfl, hb7⟩
        have HP7 := Aside0.mk (HP6.out.call hb7)
        rw [HE1.out]
        clear hb7 HP6 HCB
        have HZ := Aside0.mk (blk_new w7 (.cells (boardC (fun _ => z30) 0) 34))
        have HP8 := Aside0.mk ((HP7.out.alloc (.cells (boardC (fun _ => z30) 0) 34)).setRow (i := 0) rfl (boardC h m))
        clear HP7
        go_wp2_with (first | (refine wpList_store_row rfl 34 (.tmp 15) (.tmp 59) rfl (w7.heap.size) (boardC h m) rfl rfl 34 _ HZ.out (HI _ _).out (by rw [boardC_size, boardC_size]) (HO _ _).out ?_))
        clear HZ
        generalize (w7.alloc (.cells (boardC (fun _ => z30) 0) 34)).setRow w7.heap.size (boardC h m) = w8 at *
        generalize w7.heap.size = gb at *
        have hOK : ∀ i, i < m → U32 (f i).f1 := fun i hi => by
          have hiM : i < M.length := by rw [HML.out]; exact hi
          rw [← HF.out, fL_get hiM]; exact (HOK.out _ (List.getElem_mem hiM)).u32
        have hOKh : ∀ i, i < m → U32 (h i).f1 := fun i hi => by rw [← HH.out, altF_f1]; exact hOK i hi
        have hVo : ∀ i, i < m → viewF h m o i = viewF f m o i := fun i hi => by rw [← HH.out]; exact altF_view f vs o m i hi
        have E3 : sumB true (listF (viewF h m o) m) = sumB true (listF (viewF f m o) m) := by rw [listF_congr hVo]
        have E4 : clL (viewF h m o) t m = clL (viewF f m o) t m := clL_congr hVo
        have E5 : clL (viewF h m o) allT m = clL (viewF f m o) allT m := clL_congr hVo
        have KFA := fun X : World => Aside0.mk (of_told f m t o tk X H48.out HT.out.1 hOK)
        have KFB := fun X : World => Aside0.mk (of_told h m t o tk X H48.out HT.out.1 hOKh)
        have KGA := fun X : World => Aside0.mk (full_told f m o tk X H48.out hOK)
        have KGB := fun X : World => Aside0.mk (full_told h m o tk X H48.out hOKh)
        rw [E3, E4] at KFB
        rw [E3, E5] at KGB
        have HR1 := Aside0.mk (right_of (viewF f m o) t m H48.out)
        have HR2 := Aside0.mk (right_of (viewF f m o) allT m H48.out)
        have HUC1 : Aside0 (∀ x ∈ clL (viewF f m o) t m, U32 x.f1) := ⟨fun x hx => by
          obtain ⟨k, hk, rfl⟩ := List.mem_map.1 hx
          rw [view_f1]; exact hOK k (touchL_mem hk)⟩
        have HUC2 : Aside0 (∀ x ∈ clL (viewF f m o) allT m, U32 x.f1) := ⟨fun x hx => by
          obtain ⟨k, hk, rfl⟩ := List.mem_map.1 hx
          rw [view_f1]; exact hOK k (touchL_mem hk)⟩
        have HHS : Aside0 (sumB true (listF (viewF f m o) m) < 4294967296) := ⟨by unfold sumB sumN; omega⟩
        generalize sumB true (listF (viewF f m o) m) = hs at *
        generalize clL (viewF f m o) t m = C1 at *
        generalize clL (viewF f m o) allT m = C2 at *
        generalize plL t m = P1 at *
        generalize plL allT m = P2 at *
        clear E3 E4 E5 hVo hOK hOKh
        go_wp2_with fail
        refine region_grown (W := w8)
          [fun (w : World) (v : Value) => v = .agg (boardC f m),
           fun (w : World) (v : Value) => v = .int .u64 t,
           fun (w : World) (v : Value) => v = .int .i64 o,
           fun (w : World) (v : Value) => v = .int .u32 tk,
           fun (w : World) (v : Value) => DvC w tk hs P1 C1 v,
           fun (w : World) (v : Value) => BvC w (dBytes tk hs P1 C1) v,
           fun (w : World) (v : Value) => v = .agg (boardC h m),
           fun (w : World) (v : Value) => v = .int .u64 t,
           fun (w : World) (v : Value) => v = .int .i64 o,
           fun (w : World) (v : Value) => v = .int .u32 tk,
           fun (w : World) (v : Value) => DvC w tk hs P1 C1 v,
           fun (w : World) (v : Value) => BvC w (dBytes tk hs P1 C1) v,
           fun (w : World) (v : Value) => v = .bool true,
           fun (w : World) (v : Value) => v = .bool true,
           fun (w : World) (v : Value) => v = .agg (boardC f m),
           fun (w : World) (v : Value) => v = .int .i64 o,
           fun (w : World) (v : Value) => v = .int .u32 tk,
           fun (w : World) (v : Value) => DvC w tk hs P2 C2 v,
           fun (w : World) (v : Value) => BvC w (dBytes tk hs P2 C2) v,
           fun (w : World) (v : Value) => v = .agg (boardC h m),
           fun (w : World) (v : Value) => v = .int .i64 o,
           fun (w : World) (v : Value) => v = .int .u32 tk,
           fun (w : World) (v : Value) => DvC w tk hs P2 C2 v,
           fun (w : World) (v : Value) => BvC w (dBytes tk hs P2 C2) v,
           fun (w : World) (v : Value) => v = .bool true,
           fun (w : World) (v : Value) => v = .bool true,
           fun (w : World) (v : Value) => v = .bool true]
          (fun j => if j = 13 then some true else none)
          [(0, some 61), (1, some 62), (2, some 63), (3, some 64), (4, some 65), (5, some 66), (6, some 67), (7, some 68), (8, some 69), (9, some 70), (10, some 71), (11, some 72), (12, some 73), (13, some 74), (14, some 75), (15, some 76), (16, some 77), (17, some 78), (18, some 79), (19, some 80), (20, some 81), (21, some 82), (22, some 83), (23, some 84), (24, some 85), (25, some 86), (26, some 10)]
          [13]
          (by kernel_rfl) (by kernel_rfl) (by kernel_rfl) (by kernel_rfl) ?r13_2g ?r13_2s ⟨?r13_2o0, ?r13_2o1, ?r13_2o2, ?r13_2o3, ?r13_2o4, ?r13_2o5, ?r13_2o6, ?r13_2o7, ?r13_2o8, ?r13_2o9, ?r13_2o10, ?r13_2o11, ?r13_2o12, ?r13_2o13, ?r13_2o14, ?r13_2o15, ?r13_2o16, ?r13_2o17, ?r13_2o18, ?r13_2o19, ?r13_2o20, ?r13_2o21, ?r13_2o22, ?r13_2o23, ?r13_2o24, ?r13_2o25, ?r13_2o26, trivial⟩ ?r13_2e
        case r13_2g =>
          intro j hj w v hv
          simp only [List.mem_cons, List.not_mem_nil, or_false] at hj
          rcases hj with rfl
          · have hv' : v = .bool true := hv; rw [hv']; rfl
        case r13_2s =>
          refine ⟨(fun w w' v hb h => h), (fun w w' v hb h => h), (fun w w' v hb h => h), (fun w w' v hb h => h), (fun w w' v hb h => h.below hb), (fun w w' v hb h => h.below hb), (fun w w' v hb h => h), (fun w w' v hb h => h), (fun w w' v hb h => h), (fun w w' v hb h => h), (fun w w' v hb h => h.below hb), (fun w w' v hb h => h.below hb), (fun w w' v hb h => h), (fun w w' v hb h => h), (fun w w' v hb h => h), (fun w w' v hb h => h), (fun w w' v hb h => h), (fun w w' v hb h => h.below hb), (fun w w' v hb h => h.below hb), (fun w w' v hb h => h), (fun w w' v hb h => h), (fun w w' v hb h => h), (fun w w' v hb h => h.below hb), (fun w w' v hb h => h.below hb), (fun w w' v hb h => h), (fun w w' v hb h => h), (fun w w' v hb h => h), trivial⟩
        case r13_2o0 =>
          intro vs w hb hV
          rw [if_pos (by kernel_rfl)]
          generalize hρ : rho _ _ _ vs = ρ
          have e13 : ρ (.tmp 13) = .pointer (some ⟨ga, 0, none⟩) := by rw [← hρ]; kernel_rfl
          clear hρ hV
          exact runs_load 34 (.tmp 13) rfl ga e13 34 (boardC f m) (0, 0) _ (((hb.block ga (blk_lt (HP8.out.get (i := 1) rfl))).trans (HP8.out.get (i := 1) rfl))) Try.underlying34 rfl (HI _ _).out ⟨Below.refl _ _, rfl⟩
        case r13_2o1 =>
          intro vs w hb hV
          rw [if_pos (by kernel_rfl)]
          generalize hρ : rho _ _ _ vs = ρ
          have e2 : ρ (.tmp 2) = .int .u64 t := by rw [← hρ]; kernel_rfl
          clear hρ hV
          refine runs_val (v := .int .u64 t) (w' := w) ?_ ⟨Below.refl _ _, rfl⟩
          go_simp <;> (first | exact IntWalk.u64_in _ (by omega) | exact IntWalk.u32_in _ (by omega) | exact IntWalk.u16_in _ (by omega) | exact IntWalk.u8_in _ (by omega) | exact IntWalk.i64_in _ (by omega) | skip)
        case r13_2o2 =>
          intro vs w hb hV
          rw [if_pos (by kernel_rfl)]
          generalize hρ : rho _ _ _ vs = ρ
          have e3 : ρ (.tmp 3) = .int .i64 o := by rw [← hρ]; kernel_rfl
          clear hρ hV
          refine runs_val (v := .int .i64 o) (w' := w) ?_ ⟨Below.refl _ _, rfl⟩
          go_simp <;> (first | exact IntWalk.u64_in _ (by omega) | exact IntWalk.u32_in _ (by omega) | exact IntWalk.u16_in _ (by omega) | exact IntWalk.u8_in _ (by omega) | exact IntWalk.i64_in _ (by omega) | skip)
        case r13_2o3 =>
          intro vs w hb hV
          rw [if_pos (by kernel_rfl)]
          generalize hρ : rho _ _ _ vs = ρ
          have e4 : ρ (.tmp 4) = .int .u32 tk := by rw [← hρ]; kernel_rfl
          clear hρ hV
          refine runs_val (v := .int .u32 tk) (w' := w) ?_ ⟨Below.refl _ _, rfl⟩
          go_simp <;> (first | exact IntWalk.u64_in _ (by omega) | exact IntWalk.u32_in _ (by omega) | exact IntWalk.u16_in _ (by omega) | exact IntWalk.u8_in _ (by omega) | exact IntWalk.i64_in _ (by omega) | skip)
        case r13_2o4 =>
          intro vs w hb hV
          rw [if_pos (by kernel_rfl)]
          generalize hρ : rho _ _ _ vs = ρ
          have d61 : (vs 0) = .agg (boardC f m) := hV 0 (by kernel_rfl)
          have e61 : ρ (.tmp 61) = vs 0 := by rw [← hρ]; kernel_rfl
          rw [d61] at e61; clear d61
          have d62 : (vs 1) = .int .u64 t := hV 1 (by kernel_rfl)
          have e62 : ρ (.tmp 62) = vs 1 := by rw [← hρ]; kernel_rfl
          rw [d62] at e62; clear d62
          have d63 : (vs 2) = .int .i64 o := hV 2 (by kernel_rfl)
          have e63 : ρ (.tmp 63) = vs 2 := by rw [← hρ]; kernel_rfl
          rw [d63] at e63; clear d63
          have d64 : (vs 3) = .int .u32 tk := hV 3 (by kernel_rfl)
          have e64 : ρ (.tmp 64) = vs 3 := by rw [← hρ]; kernel_rfl
          rw [d64] at e64; clear d64
          have ef13 : ρ (.func 13) = .func (.func 13) #[] #[] := by rw [← hρ]; rfl
          clear hρ hV
          refine runs_call (f := 13) (args := #[.agg (boardC f m), .int .u64 t, .int .i64 o, .int .u32 tk]) (w' := w) ?_ ?_
          · go_simp
          · refine (KFA _).out.mono ?_
            rintro e w5 ⟨v, rfl, hv, hb5⟩
            exact ⟨_, rfl, hb5, hv⟩
        case r13_2o5 =>
          intro vs w hb hV
          rw [if_pos (by kernel_rfl)]
          generalize hρ : rho _ _ _ vs = ρ
          have d65 : (fun (w : World) (v : Value) => DvC w tk hs P1 C1 v) w (vs 4) := hV 4 (by kernel_rfl)
          have e65 : ρ (.tmp 65) = vs 4 := by rw [← hρ]; kernel_rfl
          have ef14 : ρ (.func 14) = .func (.func 14) #[] #[] := by rw [← hρ]; rfl
          clear hρ hV
          refine runs_call (f := 14) (args := #[vs 4]) (w' := w) ?_ ?_
          · go_simp
          · refine (bytes_told tk hs P1 C1 _ _ d65 HR1.out HT.out.2 HHS.out HUC1.out).mono ?_
            rintro e w5 ⟨v, rfl, hv, hb5⟩
            exact ⟨_, rfl, hb5, hv⟩
        case r13_2o6 =>
          intro vs w hb hV
          rw [if_pos (by kernel_rfl)]
          generalize hρ : rho _ _ _ vs = ρ
          have e15 : ρ (.tmp 15) = .pointer (some ⟨gb, 0, none⟩) := by rw [← hρ]; kernel_rfl
          clear hρ hV
          exact runs_load 34 (.tmp 15) rfl gb e15 34 (boardC h m) (0, 0) _ (((hb.block gb (blk_lt (HP8.out.get (i := 0) rfl))).trans (HP8.out.get (i := 0) rfl))) Try.underlying34 rfl (HI _ _).out ⟨Below.refl _ _, rfl⟩
        case r13_2o7 =>
          intro vs w hb hV
          rw [if_pos (by kernel_rfl)]
          generalize hρ : rho _ _ _ vs = ρ
          have e2 : ρ (.tmp 2) = .int .u64 t := by rw [← hρ]; kernel_rfl
          clear hρ hV
          refine runs_val (v := .int .u64 t) (w' := w) ?_ ⟨Below.refl _ _, rfl⟩
          go_simp <;> (first | exact IntWalk.u64_in _ (by omega) | exact IntWalk.u32_in _ (by omega) | exact IntWalk.u16_in _ (by omega) | exact IntWalk.u8_in _ (by omega) | exact IntWalk.i64_in _ (by omega) | skip)
        case r13_2o8 =>
          intro vs w hb hV
          rw [if_pos (by kernel_rfl)]
          generalize hρ : rho _ _ _ vs = ρ
          have e3 : ρ (.tmp 3) = .int .i64 o := by rw [← hρ]; kernel_rfl
          clear hρ hV
          refine runs_val (v := .int .i64 o) (w' := w) ?_ ⟨Below.refl _ _, rfl⟩
          go_simp <;> (first | exact IntWalk.u64_in _ (by omega) | exact IntWalk.u32_in _ (by omega) | exact IntWalk.u16_in _ (by omega) | exact IntWalk.u8_in _ (by omega) | exact IntWalk.i64_in _ (by omega) | skip)
        case r13_2o9 =>
          intro vs w hb hV
          rw [if_pos (by kernel_rfl)]
          generalize hρ : rho _ _ _ vs = ρ
          have e4 : ρ (.tmp 4) = .int .u32 tk := by rw [← hρ]; kernel_rfl
          clear hρ hV
          refine runs_val (v := .int .u32 tk) (w' := w) ?_ ⟨Below.refl _ _, rfl⟩
          go_simp <;> (first | exact IntWalk.u64_in _ (by omega) | exact IntWalk.u32_in _ (by omega) | exact IntWalk.u16_in _ (by omega) | exact IntWalk.u8_in _ (by omega) | exact IntWalk.i64_in _ (by omega) | skip)
        case r13_2o10 =>
          intro vs w hb hV
          rw [if_pos (by kernel_rfl)]
          generalize hρ : rho _ _ _ vs = ρ
          have d67 : (vs 6) = .agg (boardC h m) := hV 6 (by kernel_rfl)
          have e67 : ρ (.tmp 67) = vs 6 := by rw [← hρ]; kernel_rfl
          rw [d67] at e67; clear d67
          have d68 : (vs 7) = .int .u64 t := hV 7 (by kernel_rfl)
          have e68 : ρ (.tmp 68) = vs 7 := by rw [← hρ]; kernel_rfl
          rw [d68] at e68; clear d68
          have d69 : (vs 8) = .int .i64 o := hV 8 (by kernel_rfl)
          have e69 : ρ (.tmp 69) = vs 8 := by rw [← hρ]; kernel_rfl
          rw [d69] at e69; clear d69
          have d70 : (vs 9) = .int .u32 tk := hV 9 (by kernel_rfl)
          have e70 : ρ (.tmp 70) = vs 9 := by rw [← hρ]; kernel_rfl
          rw [d70] at e70; clear d70
          have ef13 : ρ (.func 13) = .func (.func 13) #[] #[] := by rw [← hρ]; rfl
          clear hρ hV
          refine runs_call (f := 13) (args := #[.agg (boardC h m), .int .u64 t, .int .i64 o, .int .u32 tk]) (w' := w) ?_ ?_
          · go_simp
          · refine (KFB _).out.mono ?_
            rintro e w5 ⟨v, rfl, hv, hb5⟩
            exact ⟨_, rfl, hb5, hv⟩
        case r13_2o11 =>
          intro vs w hb hV
          rw [if_pos (by kernel_rfl)]
          generalize hρ : rho _ _ _ vs = ρ
          have d71 : (fun (w : World) (v : Value) => DvC w tk hs P1 C1 v) w (vs 10) := hV 10 (by kernel_rfl)
          have e71 : ρ (.tmp 71) = vs 10 := by rw [← hρ]; kernel_rfl
          have ef14 : ρ (.func 14) = .func (.func 14) #[] #[] := by rw [← hρ]; rfl
          clear hρ hV
          refine runs_call (f := 14) (args := #[vs 10]) (w' := w) ?_ ?_
          · go_simp
          · refine (bytes_told tk hs P1 C1 _ _ d71 HR1.out HT.out.2 HHS.out HUC1.out).mono ?_
            rintro e w5 ⟨v, rfl, hv, hb5⟩
            exact ⟨_, rfl, hb5, hv⟩
        case r13_2o12 =>
          intro vs w hb hV
          rw [if_pos (by kernel_rfl)]
          generalize hρ : rho _ _ _ vs = ρ
          have d66 : (fun (w : World) (v : Value) => BvC w (dBytes tk hs P1 C1) v) w (vs 5) := hV 5 (by kernel_rfl)
          have e66 : ρ (.tmp 66) = vs 5 := by rw [← hρ]; kernel_rfl
          have d72 : (fun (w : World) (v : Value) => BvC w (dBytes tk hs P1 C1) v) w (vs 11) := hV 11 (by kernel_rfl)
          have e72 : ρ (.tmp 72) = vs 11 := by rw [← hρ]; kernel_rfl
          have ef12 : ρ (.func 12) = .func (.func 12) #[] #[] := by rw [← hρ]; rfl
          clear hρ hV
          refine runs_call (f := 12) (args := #[vs 5, vs 11]) (w' := w) ?_ ?_
          · go_simp
          · refine (same_told _ _ _ _ _ d66 d72).mono ?_
            rintro e w5 ⟨rfl, hb5⟩
            exact ⟨_, rfl, hb5, by simp⟩
        case r13_2o13 =>
          intro vs w hb hV
          rw [if_pos (by kernel_rfl)]
          generalize hρ : rho _ _ _ vs = ρ
          have d73 : (vs 12) = .bool true := hV 12 (by kernel_rfl)
          have e73 : ρ (.tmp 73) = vs 12 := by rw [← hρ]; kernel_rfl
          clear hρ hV
          refine runs_val (v := vs 12) (w' := w) ?_ ⟨Below.refl _ _, d73⟩
          go_simp
        case r13_2o14 =>
          intro vs w hb hV
          rw [if_pos (by kernel_rfl)]
          generalize hρ : rho _ _ _ vs = ρ
          have e13 : ρ (.tmp 13) = .pointer (some ⟨ga, 0, none⟩) := by rw [← hρ]; kernel_rfl
          clear hρ hV
          exact runs_load 34 (.tmp 13) rfl ga e13 34 (boardC f m) (0, 0) _ (((hb.block ga (blk_lt (HP8.out.get (i := 1) rfl))).trans (HP8.out.get (i := 1) rfl))) Try.underlying34 rfl (HI _ _).out ⟨Below.refl _ _, rfl⟩
        case r13_2o15 =>
          intro vs w hb hV
          rw [if_pos (by kernel_rfl)]
          generalize hρ : rho _ _ _ vs = ρ
          have e3 : ρ (.tmp 3) = .int .i64 o := by rw [← hρ]; kernel_rfl
          clear hρ hV
          refine runs_val (v := .int .i64 o) (w' := w) ?_ ⟨Below.refl _ _, rfl⟩
          go_simp <;> (first | exact IntWalk.u64_in _ (by omega) | exact IntWalk.u32_in _ (by omega) | exact IntWalk.u16_in _ (by omega) | exact IntWalk.u8_in _ (by omega) | exact IntWalk.i64_in _ (by omega) | skip)
        case r13_2o16 =>
          intro vs w hb hV
          rw [if_pos (by kernel_rfl)]
          generalize hρ : rho _ _ _ vs = ρ
          have e4 : ρ (.tmp 4) = .int .u32 tk := by rw [← hρ]; kernel_rfl
          clear hρ hV
          refine runs_val (v := .int .u32 tk) (w' := w) ?_ ⟨Below.refl _ _, rfl⟩
          go_simp <;> (first | exact IntWalk.u64_in _ (by omega) | exact IntWalk.u32_in _ (by omega) | exact IntWalk.u16_in _ (by omega) | exact IntWalk.u8_in _ (by omega) | exact IntWalk.i64_in _ (by omega) | skip)
        case r13_2o17 =>
          intro vs w hb hV
          rw [if_pos (by kernel_rfl)]
          generalize hρ : rho _ _ _ vs = ρ
          have d75 : (vs 14) = .agg (boardC f m) := hV 14 (by kernel_rfl)
          have e75 : ρ (.tmp 75) = vs 14 := by rw [← hρ]; kernel_rfl
          rw [d75] at e75; clear d75
          have d76 : (vs 15) = .int .i64 o := hV 15 (by kernel_rfl)
          have e76 : ρ (.tmp 76) = vs 15 := by rw [← hρ]; kernel_rfl
          rw [d76] at e76; clear d76
          have d77 : (vs 16) = .int .u32 tk := hV 16 (by kernel_rfl)
          have e77 : ρ (.tmp 77) = vs 16 := by rw [← hρ]; kernel_rfl
          rw [d77] at e77; clear d77
          have ef15 : ρ (.func 15) = .func (.func 15) #[] #[] := by rw [← hρ]; rfl
          clear hρ hV
          refine runs_call (f := 15) (args := #[.agg (boardC f m), .int .i64 o, .int .u32 tk]) (w' := w) ?_ ?_
          · go_simp
          · refine (KGA _).out.mono ?_
            rintro e w5 ⟨v, rfl, hv, hb5⟩
            exact ⟨_, rfl, hb5, hv⟩
        case r13_2o18 =>
          intro vs w hb hV
          rw [if_pos (by kernel_rfl)]
          generalize hρ : rho _ _ _ vs = ρ
          have d78 : (fun (w : World) (v : Value) => DvC w tk hs P2 C2 v) w (vs 17) := hV 17 (by kernel_rfl)
          have e78 : ρ (.tmp 78) = vs 17 := by rw [← hρ]; kernel_rfl
          have ef14 : ρ (.func 14) = .func (.func 14) #[] #[] := by rw [← hρ]; rfl
          clear hρ hV
          refine runs_call (f := 14) (args := #[vs 17]) (w' := w) ?_ ?_
          · go_simp
          · refine (bytes_told tk hs P2 C2 _ _ d78 HR2.out HT.out.2 HHS.out HUC2.out).mono ?_
            rintro e w5 ⟨v, rfl, hv, hb5⟩
            exact ⟨_, rfl, hb5, hv⟩
        case r13_2o19 =>
          intro vs w hb hV
          rw [if_pos (by kernel_rfl)]
          generalize hρ : rho _ _ _ vs = ρ
          have e15 : ρ (.tmp 15) = .pointer (some ⟨gb, 0, none⟩) := by rw [← hρ]; kernel_rfl
          clear hρ hV
          exact runs_load 34 (.tmp 15) rfl gb e15 34 (boardC h m) (0, 0) _ (((hb.block gb (blk_lt (HP8.out.get (i := 0) rfl))).trans (HP8.out.get (i := 0) rfl))) Try.underlying34 rfl (HI _ _).out ⟨Below.refl _ _, rfl⟩
        case r13_2o20 =>
          intro vs w hb hV
          rw [if_pos (by kernel_rfl)]
          generalize hρ : rho _ _ _ vs = ρ
          have e3 : ρ (.tmp 3) = .int .i64 o := by rw [← hρ]; kernel_rfl
          clear hρ hV
          refine runs_val (v := .int .i64 o) (w' := w) ?_ ⟨Below.refl _ _, rfl⟩
          go_simp <;> (first | exact IntWalk.u64_in _ (by omega) | exact IntWalk.u32_in _ (by omega) | exact IntWalk.u16_in _ (by omega) | exact IntWalk.u8_in _ (by omega) | exact IntWalk.i64_in _ (by omega) | skip)
        case r13_2o21 =>
          intro vs w hb hV
          rw [if_pos (by kernel_rfl)]
          generalize hρ : rho _ _ _ vs = ρ
          have e4 : ρ (.tmp 4) = .int .u32 tk := by rw [← hρ]; kernel_rfl
          clear hρ hV
          refine runs_val (v := .int .u32 tk) (w' := w) ?_ ⟨Below.refl _ _, rfl⟩
          go_simp <;> (first | exact IntWalk.u64_in _ (by omega) | exact IntWalk.u32_in _ (by omega) | exact IntWalk.u16_in _ (by omega) | exact IntWalk.u8_in _ (by omega) | exact IntWalk.i64_in _ (by omega) | skip)
        case r13_2o22 =>
          intro vs w hb hV
          rw [if_pos (by kernel_rfl)]
          generalize hρ : rho _ _ _ vs = ρ
          have d80 : (vs 19) = .agg (boardC h m) := hV 19 (by kernel_rfl)
          have e80 : ρ (.tmp 80) = vs 19 := by rw [← hρ]; kernel_rfl
          rw [d80] at e80; clear d80
          have d81 : (vs 20) = .int .i64 o := hV 20 (by kernel_rfl)
          have e81 : ρ (.tmp 81) = vs 20 := by rw [← hρ]; kernel_rfl
          rw [d81] at e81; clear d81
          have d82 : (vs 21) = .int .u32 tk := hV 21 (by kernel_rfl)
          have e82 : ρ (.tmp 82) = vs 21 := by rw [← hρ]; kernel_rfl
          rw [d82] at e82; clear d82
          have ef15 : ρ (.func 15) = .func (.func 15) #[] #[] := by rw [← hρ]; rfl
          clear hρ hV
          refine runs_call (f := 15) (args := #[.agg (boardC h m), .int .i64 o, .int .u32 tk]) (w' := w) ?_ ?_
          · go_simp
          · refine (KGB _).out.mono ?_
            rintro e w5 ⟨v, rfl, hv, hb5⟩
            exact ⟨_, rfl, hb5, hv⟩
        case r13_2o23 =>
          intro vs w hb hV
          rw [if_pos (by kernel_rfl)]
          generalize hρ : rho _ _ _ vs = ρ
          have d83 : (fun (w : World) (v : Value) => DvC w tk hs P2 C2 v) w (vs 22) := hV 22 (by kernel_rfl)
          have e83 : ρ (.tmp 83) = vs 22 := by rw [← hρ]; kernel_rfl
          have ef14 : ρ (.func 14) = .func (.func 14) #[] #[] := by rw [← hρ]; rfl
          clear hρ hV
          refine runs_call (f := 14) (args := #[vs 22]) (w' := w) ?_ ?_
          · go_simp
          · refine (bytes_told tk hs P2 C2 _ _ d83 HR2.out HT.out.2 HHS.out HUC2.out).mono ?_
            rintro e w5 ⟨v, rfl, hv, hb5⟩
            exact ⟨_, rfl, hb5, hv⟩
        case r13_2o24 =>
          intro vs w hb hV
          rw [if_pos (by kernel_rfl)]
          generalize hρ : rho _ _ _ vs = ρ
          have d79 : (fun (w : World) (v : Value) => BvC w (dBytes tk hs P2 C2) v) w (vs 18) := hV 18 (by kernel_rfl)
          have e79 : ρ (.tmp 79) = vs 18 := by rw [← hρ]; kernel_rfl
          have d84 : (fun (w : World) (v : Value) => BvC w (dBytes tk hs P2 C2) v) w (vs 23) := hV 23 (by kernel_rfl)
          have e84 : ρ (.tmp 84) = vs 23 := by rw [← hρ]; kernel_rfl
          have ef12 : ρ (.func 12) = .func (.func 12) #[] #[] := by rw [← hρ]; rfl
          clear hρ hV
          refine runs_call (f := 12) (args := #[vs 18, vs 23]) (w' := w) ?_ ?_
          · go_simp
          · refine (same_told _ _ _ _ _ d79 d84).mono ?_
            rintro e w5 ⟨rfl, hb5⟩
            exact ⟨_, rfl, hb5, by simp⟩
        case r13_2o25 =>
          intro vs w hb hV
          rw [if_pos (by kernel_rfl)]
          generalize hρ : rho _ _ _ vs = ρ
          have d74 : (vs 13) = .bool true := hV 13 (by kernel_rfl)
          have e74 : ρ (.tmp 74) = vs 13 := by rw [← hρ]; kernel_rfl
          rw [d74] at e74; clear d74
          have d85 : (vs 24) = .bool true := hV 24 (by kernel_rfl)
          have e85 : ρ (.tmp 85) = vs 24 := by rw [← hρ]; kernel_rfl
          rw [d85] at e85; clear d85
          have econ : ∀ v : Value, ρ (.const v) = v := fun v => by rw [← hρ]; rfl
          clear hρ hV
          refine runs_val (v := .bool true) (w' := w) ?_ ⟨Below.refl _ _, rfl⟩
          go_simp <;> (first | exact IntWalk.u64_in _ (by omega) | exact IntWalk.u32_in _ (by omega) | exact IntWalk.u16_in _ (by omega) | exact IntWalk.u8_in _ (by omega) | exact IntWalk.i64_in _ (by omega) | skip)
        case r13_2o26 =>
          intro vs w hb hV
          rw [if_pos (by kernel_rfl)]
          generalize hρ : rho _ _ _ vs = ρ
          have d86 : (vs 25) = .bool true := hV 25 (by kernel_rfl)
          have e86 : ρ (.tmp 86) = vs 25 := by rw [← hρ]; kernel_rfl
          clear hρ hV
          refine runs_val (v := vs 25) (w' := w) ?_ ⟨Below.refl _ _, d86⟩
          go_simp
        case r13_2e =>
          intro vs w9 hb9 hV
          have d61 : (vs 0) = .agg (boardC f m) := hV 0 (Nat.le_of_ble_eq_true rfl)
          have d62 : (vs 1) = .int .u64 t := hV 1 (Nat.le_of_ble_eq_true rfl)
          have d63 : (vs 2) = .int .i64 o := hV 2 (Nat.le_of_ble_eq_true rfl)
          have d64 : (vs 3) = .int .u32 tk := hV 3 (Nat.le_of_ble_eq_true rfl)
          have d65 : (fun (w : World) (v : Value) => DvC w tk hs P1 C1 v) w9 (vs 4) := hV 4 (Nat.le_of_ble_eq_true rfl)
          have d66 : (fun (w : World) (v : Value) => BvC w (dBytes tk hs P1 C1) v) w9 (vs 5) := hV 5 (Nat.le_of_ble_eq_true rfl)
          have d67 : (vs 6) = .agg (boardC h m) := hV 6 (Nat.le_of_ble_eq_true rfl)
          have d68 : (vs 7) = .int .u64 t := hV 7 (Nat.le_of_ble_eq_true rfl)
          have d69 : (vs 8) = .int .i64 o := hV 8 (Nat.le_of_ble_eq_true rfl)
          have d70 : (vs 9) = .int .u32 tk := hV 9 (Nat.le_of_ble_eq_true rfl)
          have d71 : (fun (w : World) (v : Value) => DvC w tk hs P1 C1 v) w9 (vs 10) := hV 10 (Nat.le_of_ble_eq_true rfl)
          have d72 : (fun (w : World) (v : Value) => BvC w (dBytes tk hs P1 C1) v) w9 (vs 11) := hV 11 (Nat.le_of_ble_eq_true rfl)
          have d73 : (vs 12) = .bool true := hV 12 (Nat.le_of_ble_eq_true rfl)
          have d74 : (vs 13) = .bool true := hV 13 (Nat.le_of_ble_eq_true rfl)
          have d75 : (vs 14) = .agg (boardC f m) := hV 14 (Nat.le_of_ble_eq_true rfl)
          have d76 : (vs 15) = .int .i64 o := hV 15 (Nat.le_of_ble_eq_true rfl)
          have d77 : (vs 16) = .int .u32 tk := hV 16 (Nat.le_of_ble_eq_true rfl)
          have d78 : (fun (w : World) (v : Value) => DvC w tk hs P2 C2 v) w9 (vs 17) := hV 17 (Nat.le_of_ble_eq_true rfl)
          have d79 : (fun (w : World) (v : Value) => BvC w (dBytes tk hs P2 C2) v) w9 (vs 18) := hV 18 (Nat.le_of_ble_eq_true rfl)
          have d80 : (vs 19) = .agg (boardC h m) := hV 19 (Nat.le_of_ble_eq_true rfl)
          have d81 : (vs 20) = .int .i64 o := hV 20 (Nat.le_of_ble_eq_true rfl)
          have d82 : (vs 21) = .int .u32 tk := hV 21 (Nat.le_of_ble_eq_true rfl)
          have d83 : (fun (w : World) (v : Value) => DvC w tk hs P2 C2 v) w9 (vs 22) := hV 22 (Nat.le_of_ble_eq_true rfl)
          have d84 : (fun (w : World) (v : Value) => BvC w (dBytes tk hs P2 C2) v) w9 (vs 23) := hV 23 (Nat.le_of_ble_eq_true rfl)
          have d85 : (vs 24) = .bool true := hV 24 (Nat.le_of_ble_eq_true rfl)
          have d86 : (vs 25) = .bool true := hV 25 (Nat.le_of_ble_eq_true rfl)
          have d10 : (vs 26) = .bool true := hV 26 (Nat.le_of_ble_eq_true rfl)
          clear hV
          simp only [putAll]
          rw [d61, d62, d63, d64, d67, d68, d69, d70, d73, d74, d75, d76, d77, d80, d81, d82, d85, d86, d10]
          clear d61 d62 d63 d64 d67 d68 d69 d70 d73 d74 d75 d76 d77 d80 d81 d82 d85 d86 d10
          generalize vs 4 = v65 at *
          generalize vs 5 = v66 at *
          generalize vs 10 = v71 at *
          generalize vs 11 = v72 at *
          generalize vs 17 = v78 at *
          generalize vs 18 = v79 at *
          generalize vs 22 = v83 at *
          generalize vs 23 = v84 at *
          clear vs
          simp only [Act.put, List.setIfInBounds_toArray, List.set_cons_zero, List.set_cons_succ]
          have HP9 := Aside0.mk (HP8.out.call hb9)
          clear hb9 d65 d66 d71 d72 d78 d79 d83 d84
          go_wp2_with fail
          go_ret
          exact ⟨rfl, HP9.out.bel⟩
end Go.Proofs.Ytkhlalpkkmjfnaa
