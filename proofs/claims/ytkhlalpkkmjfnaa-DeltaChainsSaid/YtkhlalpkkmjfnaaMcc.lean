/- The parts of this proof, one behind the other: contracts of the functions, plain laws, the walk. -/
import Derived.Test.YtkhlalpkkmjfnaaMcb
import Derived.Deep.RegionHeld3
namespace Go.Proofs.Ytkhlalpkkmjfnaa
open Go.RowKit Go.Proofs.YtkhlalpkkmjfnaaW.PrintWords Go.Proofs.YtkhlalpkkmjfnaaW.PrintLast Go.Proofs.YtkhlalpkkmjfnaaW.PrintMore
set_option linter.unusedVariables false
set_option linter.unusedSimpArgs false

/-- A block that isn't the pen's. -/
theorem PPut.blk {w w' : World} {base g gc : Nat} {v v' : Value} {p' : List Int} {o : Obj} (h : PPut w w' base g v p' v') (hb : w.heap[gc]? = some o) (hne : gc ≠ g) (hv : v.ownBlock ≠ some gc) : w'.heap[gc]? = some o ∧ v'.ownBlock ≠ some gc := by
  refine ⟨h.2.1.blk hb hne (fun e => hv e.symm), fun e => ?_⟩
  rcases h.2.2.1 with h1 | h1 | ⟨b, h1, h2⟩
  · rw [h1] at e; cases e
  · exact hv (h1 ▸ e)
  · rw [h1] at e
    have := blk_lt hb
    injection e; omega

set_option maxRecDepth 100000 in
set_option maxHeartbeats 8000000 in
theorem dbytes_no (tk hs : Int) (A A2 : Option Addr) (n c m c2 : Nat) (P : List Int) (C : List S30) (w : World) (hp : (Kd.int .u8).C w A n P) (hc : n ≤ c) (hC : k30.C w A2 m C) (hc2 : m ≤ c2) (hP : Bytes P) (hl : n < 4611686018427387904) (hr : rightB P m = false) :
    Calls Try.prog 14 #[.agg #[.int .u32 tk, .int .u32 hs, .slice A n c, .slice A2 m c2]] w fun e w' => e = .returned (.slice none 0 0) ∧ Below w.heap.size w w' := by
  obtain rfl := hp.1
  obtain rfl := hC.1
  have H0 := Aside0.mk ((Hp.start w).alloc (.cells #[.int .u32 tk, .int .u32 hs, .slice A P.length c, .slice A2 C.length c2] 41))
  have hb0 := below_alloc (Below.refl w.heap.size w) (.cells #[.int .u32 tk, .int .u32 hs, .slice A P.length c, .slice A2 C.length c2] 41)
  have KEY := Aside0.mk (right_any tk hs A A2 c c2 P C _ (Kd.C_below hp hb0) hc (Kd.C_below hC hb0) hc2 hP hl)
  rw [hr] at KEY
  generalize P.length = n at *
  generalize C.length = m at *
  clear hp hC hb0 hP hl hr hc hc2
  go_enter Try.func14, Try.ntmps14
  go_wp2_with (first | (refine wpList_load_row_g 41 (.tmp 1) rfl (w.heap.size) rfl rfl 41 _ (0, 0) _ (H0.out.get (i := 0) rfl) Try.underlying41 rfl (delta_info _ _ _ _) ?_))
  refine KEY.out.mono ?_
  rintro e w1 ⟨rfl, hb1⟩
  have H1 := Aside0.mk (H0.out.call hb1)
  clear hb1 KEY H0
  go_wp2_with fail
  go_ret
  exact ⟨rfl, H1.out.bel⟩

set_option maxRecDepth 100000 in
set_option maxHeartbeats 8000000 in
theorem dbytes_yes (tk hs : Nat) (A A2 : Option Addr) (n c m c2 : Nat) (P : List Int) (C : List S30) (w : World) (hp : (Kd.int .u8).C w A n P) (hc : n ≤ c) (hC : k30.C w A2 m C) (hc2 : m ≤ c2) (hr : rightB P m = true) (htk : tk < 4294967296) (hhs : hs < 4294967296) (hU : ∀ x ∈ C, U32 x.f1) :
    Calls Try.prog 14 #[.agg #[.int .u32 tk, .int .u32 hs, .slice A n c, .slice A2 m c2]] w fun e w' => ∃ v, e = .returned v ∧ (Kd.int .u8).R 5 w' w.heap.size (fun _ => True) v (dBytes tk hs P C) ∧ Below w.heap.size w w' := by
  obtain ⟨hr1, hr2⟩ : risB (-1) P = true ∧ P.length = m := by
    unfold rightB at hr
    simp only [Bool.and_eq_true, beq_iff_eq] at hr
    exact hr
  obtain ⟨q1, q2, q3⟩ := risB_le (by omega) (by omega) hr1
  obtain rfl := hp.1
  have hCl := hC.1
  have hn48 : P.length ≤ 48 := by omega
  have HPC : Aside0 (P.length = m ∧ C.length = m ∧ m ≤ 48) := ⟨hr2, hCl, by omega⟩
  have hb0 := below_alloc (Below.refl w.heap.size w) (.cells #[.int .u32 tk, .int .u32 hs, .slice A P.length c, .slice A2 m c2] 41)
  have KEY := Aside0.mk (by have := right_any tk hs A A2 c c2 P C _ (Kd.C_below hp hb0) hc (by rw [hCl]; exact Kd.C_below hC hb0) (by rw [hCl]; exact hc2) q2 (by omega); rw [hCl, hr] at this; exact this)
  have HTK := Aside0.mk htk
  have HHS := Aside0.mk hhs
  have HU := Aside0.mk hU
  have HB := Aside0.mk q2
  have HF : Aside0 (∀ z, Below w.heap.size w z → (Kd.int .u8).C z A P.length P ∧ k30.C z A2 m C) := ⟨fun z hb => ⟨Kd.C_below hp hb, Kd.C_below hC hb⟩⟩
  have H0 := Aside0.mk ((Hp.start w).alloc (.cells #[.int .u32 tk, .int .u32 hs, .slice A P.length c, .slice A2 m c2] 41))
  generalize hn : P.length = n at *
  have HNP := Aside0.mk hn
  clear hp hC hb0 hc hc2 hr hr1 hr2 q1 q2 q3 htk hhs hU hCl hn
  go_enter Try.func14, Try.ntmps14
  go_wp2_with (first | (refine wpList_load_row_g 41 (.tmp 1) rfl (w.heap.size) rfl rfl 41 _ (0, 0) _ (H0.out.get (i := 0) rfl) Try.underlying41 rfl (delta_info _ _ _ _) ?_))
  refine KEY.out.mono ?_
  rintro e V0 ⟨rfl, hb1⟩
  have H1 := Aside0.mk (H0.out.call hb1)
  clear hb1 KEY H0
  go_wp2_with fail
  obtain ⟨gd, hgd⟩ : ∃ gd, w.heap.size = gd := ⟨_, rfl⟩
  rw [hgd] at H1
  rw [hgd]
  obtain ⟨gp, hgp⟩ : ∃ gp, V0.heap.size = gp := ⟨_, rfl⟩
  rw [hgp]
  have HGD := Aside0.mk hgd
  have GD : Aside0 (gd < gp) := ⟨by rw [← hgp]; exact H1.out.lt (i := 0) rfl⟩
  have hP0 : Pn (V0.alloc (.cells #[.slice none 0 0] 81)) gp gp [] (.slice none 0 0) := ⟨by rw [← hgp]; exact blk_new _ _, Kd.R_nil _ _ _ _ _⟩
  have HP0 := Aside0.mk hP0
  have HB0 : Aside0 (Below gp V0 (V0.alloc (.cells #[.slice none 0 0] 81))) := ⟨by rw [← hgp]; exact below_alloc (Below.refl _ _) _⟩
  have HV0 : Aside0 (V0.heap.size = gp) := ⟨hgp⟩
  have HG0 := Aside0.mk (H1.out.get (i := 0) rfl)
  have HF0 : Aside0 (∀ z, Below gp V0 z → (Kd.int .u8).C z A n P ∧ k30.C z A2 m C) := ⟨fun z hz => HF.out z (by rw [HGD.out]; exact H1.out.bel.trans (hz.mono (Nat.le_of_lt GD.out)))⟩
  have IX : Aside0 (IntKind.u8.wrap (n : Int) = ((n % 256 : Nat) : Int)) := ⟨by rw [IntWalk.u8_in _ (by have := HPC.out; omega)]; have := HPC.out; omega⟩
  clear hP0 hgd hgp HF
  generalize hV : V0.alloc (.cells #[.slice none 0 0] 81) = V1 at *
  clear hV
  refine regionS (W := V1)
    [fun _ v => v = .pointer (some ⟨gd, 0, none⟩),
     fun _ v => v = .int .u32 tk,
     fun _ v => v = .pointer (some ⟨gp, 0, none⟩),
     fun _ v => v = .pointer (some ⟨gd, 1, none⟩),
     fun _ v => v = .int .u32 hs,
     fun _ v => v = .pointer (some ⟨gp, 0, none⟩),
     fun _ v => v = .pointer (some ⟨gd, 2, none⟩),
     fun _ v => v = .slice A n c,
     fun _ v => v = .int .i64 n,
     fun _ v => v = .int .u8 ((n % 256 : Nat) : Int),
     fun _ v => v = .pointer (some ⟨gp, 0, none⟩)]
    [2, 5, 10]
    (fun t => match t with | 0 => fun (rs : List Value) (w : World) => ∃ v, Pn w gp gp [] v | 1 => fun (rs : List Value) (w : World) => ∃ v, Pn w gp gp (lowN tk 4) v | 2 => fun (rs : List Value) (w : World) => ∃ v, Pn w gp gp (lowN tk 4 ++ lowN hs 4) v | 3 => fun (rs : List Value) (w : World) => ∃ v, Pn w gp gp (dHead tk hs n) v | _ => fun _ _ => False)
    (fun _ _ _ => True) (fun w => Below gp V0 w ∧ gp ≤ w.heap.size)
    (fun j =>  none)
    [(0, some 9), (1, some 10), (2, some 11), (3, some 12), (4, some 13), (5, some 14), (6, some 15), (7, some 16), (8, some 17), (9, some 18), (10, some 19)]
    []
    (by kernel_rfl) (by kernel_rfl) (by kernel_rfl) (by kernel_rfl) (by kernel_rfl) ?z4_1c ?z4_1i ?z4_1b ?z4_1d ?z4_1g ⟨?z4_1t0, ?z4_1t1, ?z4_1t2, ?z4_1t3, ?z4_1t4, ?z4_1t5, ?z4_1t6, ?z4_1t7, ?z4_1t8, ?z4_1t9, ?z4_1t10, trivial⟩ ⟨?z4_1o0, ?z4_1o1, ?z4_1o2, ?z4_1o3, ?z4_1o4, ?z4_1o5, ?z4_1o6, ?z4_1o7, ?z4_1o8, ?z4_1o9, ?z4_1o10, trivial⟩ ?z4_1e
  case z4_1c => exact ⟨HB0.out.trans (below_drew (Below.refl _ _)), by have := blk_lt HP0.out.1; exact Nat.le_of_lt this⟩
  case z4_1i => exact ⟨_, HP0.out⟩
  case z4_1b => intro w w' hb h; exact ⟨h.1.trans (hb.mono h.2), Nat.le_trans h.2 hb.size⟩
  case z4_1d =>
    intro t rs w w' hb h
    match t, h with
    | 0, h => (replace h : ∃ v, Pn w gp gp [] v := h); show ∃ v, Pn w' gp gp [] v; (obtain ⟨v, h⟩ := h; exact ⟨v, h.below hb⟩)
    | 1, h => (replace h : ∃ v, Pn w gp gp (lowN tk 4) v := h); show ∃ v, Pn w' gp gp (lowN tk 4) v; (obtain ⟨v, h⟩ := h; exact ⟨v, h.below hb⟩)
    | 2, h => (replace h : ∃ v, Pn w gp gp (lowN tk 4 ++ lowN hs 4) v := h); show ∃ v, Pn w' gp gp (lowN tk 4 ++ lowN hs 4) v; (obtain ⟨v, h⟩ := h; exact ⟨v, h.below hb⟩)
    | 3, h => (replace h : ∃ v, Pn w gp gp (dHead tk hs n) v := h); show ∃ v, Pn w' gp gp (dHead tk hs n) v; (obtain ⟨v, h⟩ := h; exact ⟨v, h.below hb⟩)
    | _ + 4, h => exact h.elim
  case z4_1g =>
    intro j hj; cases hj
  case z4_1t0 => exact StabS.const _ _ _ _
  case z4_1t1 => exact StabS.const _ _ _ _
  case z4_1t2 => exact StabS.const _ _ _ _
  case z4_1t3 => exact StabS.const _ _ _ _
  case z4_1t4 => exact StabS.const _ _ _ _
  case z4_1t5 => exact StabS.const _ _ _ _
  case z4_1t6 => exact StabS.const _ _ _ _
  case z4_1t7 => exact StabS.const _ _ _ _
  case z4_1t8 => exact StabS.const _ _ _ _
  case z4_1t9 => exact StabS.const _ _ _ _
  case z4_1t10 => exact StabS.const _ _ _ _
  case z4_1o0 =>
    intro vs w t hC ht1 ht2 hS hV
    rw [if_pos (by kernel_rfl)]
    generalize hρ : rho _ _ _ vs = ρ
    have e1 : ρ (.tmp 1) = .pointer (some ⟨gd, 0, none⟩) := by rw [← hρ]; kernel_rfl
    clear hρ hV
    refine runs_val (v := .pointer (some ⟨gd, 0, none⟩)) (w' := w) ?_ ⟨Below.refl _ _, rfl⟩
    clear ht1 ht2 hS hC
    go_simp <;> (first | exact IntWalk.u64_in _ (by omega) | exact IntWalk.u32_in _ (by omega) | exact IntWalk.u16_in _ (by omega) | exact IntWalk.u8_in _ (by omega) | exact IntWalk.i64_in _ (by omega) | skip)
  case z4_1o1 =>
    intro vs w t hC ht1 ht2 hS hV
    rw [if_pos (by kernel_rfl)]
    generalize hρ : rho _ _ _ vs = ρ
    have d9 : (vs 0) = .pointer (some ⟨gd, 0, none⟩) := hV 0 (by kernel_rfl)
    have e9 : ρ (.tmp 9) = vs 0 := by rw [← hρ]; kernel_rfl
    rw [d9] at e9; clear d9
    clear hρ hV
    have c0 := blk_cell ((hC.1.block gd GD.out).trans HG0.out) 0
    refine runs_val (v := .int .u32 tk) (w' := w) ?_ ⟨Below.refl _ _, rfl⟩
    clear ht1 ht2 hS hC
    go_simp
  case z4_1o2 =>
    intro vs w hC hS hV
    replace hS : ∃ v, Pn w gp gp [] v := hS
    rw [if_pos (by kernel_rfl)]
    generalize hρ : rho _ _ _ vs = ρ
    have e3 : ρ (.tmp 3) = .pointer (some ⟨gp, 0, none⟩) := by rw [← hρ]; kernel_rfl
    have d10 : (vs 1) = .int .u32 tk := hV 1 (by kernel_rfl)
    have e10 : ρ (.tmp 10) = vs 1 := by rw [← hρ]; kernel_rfl
    rw [d10] at e10; clear d10
    have ef38 : ρ (.func 38) = .func (.func 38) #[] #[] := by rw [← hρ]; rfl
    clear hρ hV
    obtain ⟨v, hp⟩ := hS
    refine runs_call (f := 38) (args := #[.pointer (some ⟨gp, 0, none⟩), .int .u32 tk]) (w' := w) ?_ ?_
    · go_simp
    · refine (pword_any gp gp [] v tk HTK.out w hp (Nat.le_refl _) (by simp)).mono ?_
      rintro e w5 ⟨v', rfl, h⟩
      exact ⟨_, rfl, ⟨hC.1.trans h.2.2.2, Nat.le_trans hC.2 h.2.1.1⟩, trivial, rfl, ⟨v', h.1⟩⟩
  case z4_1o3 =>
    intro vs w t hC ht1 ht2 hS hV
    rw [if_pos (by kernel_rfl)]
    generalize hρ : rho _ _ _ vs = ρ
    have e1 : ρ (.tmp 1) = .pointer (some ⟨gd, 0, none⟩) := by rw [← hρ]; kernel_rfl
    clear hρ hV
    refine runs_val (v := .pointer (some ⟨gd, 1, none⟩)) (w' := w) ?_ ⟨Below.refl _ _, rfl⟩
    clear ht1 ht2 hS hC
    go_simp <;> (first | exact IntWalk.u64_in _ (by omega) | exact IntWalk.u32_in _ (by omega) | exact IntWalk.u16_in _ (by omega) | exact IntWalk.u8_in _ (by omega) | exact IntWalk.i64_in _ (by omega) | skip)
  case z4_1o4 =>
    intro vs w t hC ht1 ht2 hS hV
    rw [if_pos (by kernel_rfl)]
    generalize hρ : rho _ _ _ vs = ρ
    have d12 : (vs 3) = .pointer (some ⟨gd, 1, none⟩) := hV 3 (by kernel_rfl)
    have e12 : ρ (.tmp 12) = vs 3 := by rw [← hρ]; kernel_rfl
    rw [d12] at e12; clear d12
    clear hρ hV
    have c0 := blk_cell ((hC.1.block gd GD.out).trans HG0.out) 1
    refine runs_val (v := .int .u32 hs) (w' := w) ?_ ⟨Below.refl _ _, rfl⟩
    clear ht1 ht2 hS hC
    go_simp
  case z4_1o5 =>
    intro vs w hC hS hV
    replace hS : ∃ v, Pn w gp gp (lowN tk 4) v := hS
    rw [if_pos (by kernel_rfl)]
    generalize hρ : rho _ _ _ vs = ρ
    have d11 : (vs 2) = .pointer (some ⟨gp, 0, none⟩) := hV 2 (by kernel_rfl)
    have e11 : ρ (.tmp 11) = vs 2 := by rw [← hρ]; kernel_rfl
    rw [d11] at e11; clear d11
    have d13 : (vs 4) = .int .u32 hs := hV 4 (by kernel_rfl)
    have e13 : ρ (.tmp 13) = vs 4 := by rw [← hρ]; kernel_rfl
    rw [d13] at e13; clear d13
    have ef38 : ρ (.func 38) = .func (.func 38) #[] #[] := by rw [← hρ]; rfl
    clear hρ hV
    obtain ⟨v, hp⟩ := hS
    refine runs_call (f := 38) (args := #[.pointer (some ⟨gp, 0, none⟩), .int .u32 hs]) (w' := w) ?_ ?_
    · go_simp
    · refine (pword_any gp gp (lowN tk 4) v hs HHS.out w hp (Nat.le_refl _) (by rw [lowN_length]; omega)).mono ?_
      rintro e w5 ⟨v', rfl, h⟩
      exact ⟨_, rfl, ⟨hC.1.trans h.2.2.2, Nat.le_trans hC.2 h.2.1.1⟩, trivial, rfl, ⟨v', h.1⟩⟩
  case z4_1o6 =>
    intro vs w t hC ht1 ht2 hS hV
    rw [if_pos (by kernel_rfl)]
    generalize hρ : rho _ _ _ vs = ρ
    have e1 : ρ (.tmp 1) = .pointer (some ⟨gd, 0, none⟩) := by rw [← hρ]; kernel_rfl
    clear hρ hV
    refine runs_val (v := .pointer (some ⟨gd, 2, none⟩)) (w' := w) ?_ ⟨Below.refl _ _, rfl⟩
    clear ht1 ht2 hS hC
    go_simp <;> (first | exact IntWalk.u64_in _ (by omega) | exact IntWalk.u32_in _ (by omega) | exact IntWalk.u16_in _ (by omega) | exact IntWalk.u8_in _ (by omega) | exact IntWalk.i64_in _ (by omega) | skip)
  case z4_1o7 =>
    intro vs w t hC ht1 ht2 hS hV
    rw [if_pos (by kernel_rfl)]
    generalize hρ : rho _ _ _ vs = ρ
    have d15 : (vs 6) = .pointer (some ⟨gd, 2, none⟩) := hV 6 (by kernel_rfl)
    have e15 : ρ (.tmp 15) = vs 6 := by rw [← hρ]; kernel_rfl
    rw [d15] at e15; clear d15
    clear hρ hV
    have c0 := blk_cell ((hC.1.block gd GD.out).trans HG0.out) 2
    refine runs_val (v := .slice A n c) (w' := w) ?_ ⟨Below.refl _ _, rfl⟩
    clear ht1 ht2 hS hC
    go_simp
  case z4_1o8 =>
    intro vs w t hC ht1 ht2 hS hV
    rw [if_pos (by kernel_rfl)]
    generalize hρ : rho _ _ _ vs = ρ
    have d16 : (vs 7) = .slice A n c := hV 7 (by kernel_rfl)
    have e16 : ρ (.tmp 16) = vs 7 := by rw [← hρ]; kernel_rfl
    rw [d16] at e16; clear d16
    clear hρ hV
    refine runs_val (v := .int .i64 n) (w' := w) ?_ ⟨Below.refl _ _, rfl⟩
    clear ht1 ht2 hS hC
    go_simp <;> (first | exact IntWalk.u64_in _ (by omega) | exact IntWalk.u32_in _ (by omega) | exact IntWalk.u16_in _ (by omega) | exact IntWalk.u8_in _ (by omega) | exact IntWalk.i64_in _ (by omega) | skip)
  case z4_1o9 =>
    intro vs w t hC ht1 ht2 hS hV
    rw [if_pos (by kernel_rfl)]
    generalize hρ : rho _ _ _ vs = ρ
    have d17 : (vs 8) = .int .i64 n := hV 8 (by kernel_rfl)
    have e17 : ρ (.tmp 17) = vs 8 := by rw [← hρ]; kernel_rfl
    rw [d17] at e17; clear d17
    clear hρ hV
    have ix := IX.out
    refine runs_val (v := .int .u8 ((n % 256 : Nat) : Int)) (w' := w) ?_ ⟨Below.refl _ _, rfl⟩
    clear ht1 ht2 hS hC
    rw [← ix]
    clear ix
    go_simp
  case z4_1o10 =>
    intro vs w hC hS hV
    replace hS : ∃ v, Pn w gp gp (lowN tk 4 ++ lowN hs 4) v := hS
    rw [if_pos (by kernel_rfl)]
    generalize hρ : rho _ _ _ vs = ρ
    have d14 : (vs 5) = .pointer (some ⟨gp, 0, none⟩) := hV 5 (by kernel_rfl)
    have e14 : ρ (.tmp 14) = vs 5 := by rw [← hρ]; kernel_rfl
    rw [d14] at e14; clear d14
    have d18 : (vs 9) = .int .u8 ((n % 256 : Nat) : Int) := hV 9 (by kernel_rfl)
    have e18 : ρ (.tmp 18) = vs 9 := by rw [← hρ]; kernel_rfl
    rw [d18] at e18; clear d18
    have ef39 : ρ (.func 39) = .func (.func 39) #[] #[] := by rw [← hρ]; rfl
    clear hρ hV
    obtain ⟨v, hp⟩ := hS
    refine runs_call (f := 39) (args := #[.pointer (some ⟨gp, 0, none⟩), .int .u8 ((n % 256 : Nat) : Int)]) (w' := w) ?_ ?_
    · go_simp
    · refine (pbyte_any gp gp (lowN tk 4 ++ lowN hs 4) v _ w hp (Nat.le_refl _) (by rw [List.length_append, lowN_length, lowN_length]; omega)).mono ?_
      rintro e w5 ⟨v', rfl, h⟩
      exact ⟨_, rfl, ⟨hC.1.trans h.2.2.2, Nat.le_trans hC.2 h.2.1.1⟩, trivial, rfl, ⟨v', h.1⟩⟩
  case z4_1e =>
    intro vs V2 hC hS hV
    replace hS : (fun (w : World) => ∃ v, Pn w gp gp (dHead tk hs n) v) V2 := hS
    have d9 : (vs 0) = .pointer (some ⟨gd, 0, none⟩) := hV 0 (Nat.le_of_ble_eq_true rfl)
    have d10 : (vs 1) = .int .u32 tk := hV 1 (Nat.le_of_ble_eq_true rfl)
    have d11 : (vs 2) = .pointer (some ⟨gp, 0, none⟩) := hV 2 (Nat.le_of_ble_eq_true rfl)
    have d12 : (vs 3) = .pointer (some ⟨gd, 1, none⟩) := hV 3 (Nat.le_of_ble_eq_true rfl)
    have d13 : (vs 4) = .int .u32 hs := hV 4 (Nat.le_of_ble_eq_true rfl)
    have d14 : (vs 5) = .pointer (some ⟨gp, 0, none⟩) := hV 5 (Nat.le_of_ble_eq_true rfl)
    have d15 : (vs 6) = .pointer (some ⟨gd, 2, none⟩) := hV 6 (Nat.le_of_ble_eq_true rfl)
    have d16 : (vs 7) = .slice A n c := hV 7 (Nat.le_of_ble_eq_true rfl)
    have d17 : (vs 8) = .int .i64 n := hV 8 (Nat.le_of_ble_eq_true rfl)
    have d18 : (vs 9) = .int .u8 ((n % 256 : Nat) : Int) := hV 9 (Nat.le_of_ble_eq_true rfl)
    have d19 : (vs 10) = .pointer (some ⟨gp, 0, none⟩) := hV 10 (Nat.le_of_ble_eq_true rfl)
    clear hV
    simp only [putAll]
    rw [d9, d10, d11, d12, d13, d14, d15, d16, d17, d18, d19]
    clear d9 d10 d11 d12 d13 d14 d15 d16 d17 d18 d19
    clear vs
    simp only [Act.put, List.setIfInBounds_toArray, List.set_cons_zero, List.set_cons_succ]
    have HP2 := Aside0.mk hS
    have HB2 := Aside0.mk hC.1
    have GC2 := Aside0.mk hC.2
    clear hS hC HP0 HB0
    have c3 := blk_cell ((HB2.out.block gd GD.out).trans HG0.out) 3
    go_wp2_with fail
    clear c3
    go_loopw [23] (fun v23 wr => ∃ i : Nat, i ≤ m ∧ v23 = .int .i64 i ∧ Aside0 ((∃ v, Pn wr gp gp (dHead tk hs n ++ dRows (P.take i) (C.take i)) v) ∧ Below gp V0 wr)) (fun v23 _ => m - (intOf v23).toNat)
    case atStart => exact ⟨0, by omega, rfl, ⟨by simpa [dRows] using HP2.out, HB2.out⟩⟩
    case round =>
      clear HP2 HB2 GC2
      obtain ⟨i, hi, rfl, H⟩ := hrel
      by_cases hlt : i < m
      · have d1 : decide (i < m) = true := decide_eq_true hlt
        have hiP : i < P.length := by rw [HNP.out, HPC.out.1]; exact hlt
        have hiC : i < C.length := by rw [HPC.out.2.1]; exact hlt
        have HI := Aside0.mk (And.intro hiP hiC)
        obtain ⟨f1, f2⟩ := HF0.out wr H.out.2
        obtain ⟨adp, hA, p0⟩ := int_at f1 i hiP
        obtain ⟨adc, hA2, q0, q1⟩ := cell_at25 f2 hiC
        have HROW := Aside0.mk (dRows_succ hiP hiC)
        have HPI0 : Aside0 (∀ z, Below gp V0 z → ∃ ad, A = some ad ∧ z.cell? (ad.add i) = some (.int .u8 P[i])) := ⟨fun z hz => int_at (HF0.out z hz).1 i hiP⟩
        have HX := HB.out _ (List.getElem_mem hiP)
        have HY := HU.out _ (List.getElem_mem hiC)
        subst hA hA2
        have HPI : Aside0 (∀ z, Below gp V0 z → z.cell? (adp.add i) = some (.int .u8 P[i])) := ⟨fun z hz => by obtain ⟨ad, e, h⟩ := HPI0.out z hz; rw [Option.some.inj e]; exact h⟩
        clear HPI0
        have hi0 : (0 : Int) ≤ i := by omega
        have him : (i : Int) < m := by omega
        have hin : (i : Int) < n := by have := HPC.out; omega
        obtain ⟨pi, hpi⟩ : ∃ pi, P[i] = pi := ⟨_, rfl⟩
        obtain ⟨x, hx⟩ : ∃ x, C[i] = x := ⟨_, rfl⟩
        rw [hpi] at p0 HROW HPI
        rw [hx] at q0 q1 HROW HY
        obtain ⟨y0, hy0⟩ : ∃ y0 : Nat, x.f1 = (y0 : Int) := ⟨x.f1.toNat, by unfold U32 at HY; omega⟩
        obtain ⟨x0, hx0⟩ : ∃ x0 : Nat, x.f0 % 4294967296 = (x0 : Int) := ⟨(x.f0 % 4294967296).toNat, by omega⟩
        obtain ⟨z0, hz0⟩ : ∃ z0 : Int, x.f0 = z0 := ⟨_, rfl⟩
        have hcb : cellB true x = lowN x0 4 ++ lowN y0 4 := by unfold cellB; rw [if_pos rfl, hx0, hy0]; simp
        rw [hcb] at HROW
        rw [hz0] at q0 hx0
        rw [hy0] at q1 HY
        have HXW : Aside0 (IntKind.u32.wrap z0 = (x0 : Int) ∧ x0 < 4294967296 ∧ y0 < 4294967296) := ⟨by rw [IntKind.wrap_u32, hx0], by omega, by unfold U32 at HY; omega⟩
        have HLEN : Aside0 ((dHead tk hs n ++ dRows (P.take i) (C.take i)).length ≤ 10000) := ⟨by
          have h1 := dRows_len (P.take i) (C.take i)
          have h2 : (P.take i).length ≤ n := by rw [List.length_take, HNP.out]; omega
          simp only [List.length_append, dHead, lowN_length, List.length_cons, List.length_nil]
          omega⟩
        clear hpi hx hcb hx0 hz0 hy0 HX HY f1 f2
        obtain ⟨W0, hW0⟩ : ∃ W0, dHead tk hs n ++ dRows (P.take i) (C.take i) = W0 := ⟨_, rfl⟩
        rw [hW0] at H HLEN
        have HW0 := Aside0.mk hW0
        clear hW0
        go_wp2_with fail
        have HC0 : Aside0 (Below gp V0 (wr.alloc (.cells #[.int .i32 z0, .int .u32 y0] 30))) := ⟨H.out.2.trans (below_alloc (Below.refl _ _) _ |>.mono (by obtain ⟨v, hv⟩ := H.out.1; exact Nat.le_of_lt hv.lt))⟩
        have HS0 : Aside0 (∃ v, Pn (wr.alloc (.cells #[.int .i32 z0, .int .u32 y0] 30)) gp gp W0 v ∧ v.ownBlock ≠ some wr.heap.size) := ⟨by
          obtain ⟨v, hv⟩ := H.out.1
          exact ⟨v, hv.below (below_alloc (Below.refl _ _) _), fun e => by have := hv.own _ e; omega⟩⟩
        have GC0 := Aside0.mk (blk_new wr (.cells #[.int .i32 z0, .int .u32 y0] 30))
        have GNE : Aside0 (wr.heap.size ≠ gp ∧ gp ≤ wr.heap.size) := ⟨by obtain ⟨v, hv⟩ := H.out.1; have := hv.lt; exact ⟨by omega, by omega⟩⟩
        have GSZ : Aside0 (gp ≤ (wr.alloc (.cells #[.int .i32 z0, .int .u32 y0] 30)).heap.size) := ⟨by have := GNE.out.2; simp; omega⟩
        generalize wr.alloc (.cells #[.int .i32 z0, .int .u32 y0] 30) = z1 at *
        generalize wr.heap.size = gc at *
        clear H
        refine regionS (W := z1)
          [fun _ v => v = .pointer (some ⟨gd, 2, none⟩),
           fun _ v => v = .slice (some adp) n c,
           fun _ v => v = .int .i64 i,
           fun _ v => v = .pointer (some (adp.add i)),
           fun _ v => v = .int .u8 pi,
           fun _ v => v = .pointer (some ⟨gp, 0, none⟩),
           fun _ v => v = .pointer (some ⟨gc, 0, none⟩),
           fun _ v => v = .int .i32 z0,
           fun _ v => v = .int .u32 x0,
           fun _ v => v = .pointer (some ⟨gp, 0, none⟩),
           fun _ v => v = .pointer (some ⟨gc, 1, none⟩),
           fun _ v => v = .int .u32 y0,
           fun _ v => v = .pointer (some ⟨gp, 0, none⟩)]
          [5, 9, 12]
          (fun t => match t with | 0 => fun (rs : List Value) (w : World) => ∃ v, Pn w gp gp W0 v ∧ v.ownBlock ≠ some gc | 1 => fun (rs : List Value) (w : World) => ∃ v, Pn w gp gp (W0 ++ [pi]) v ∧ v.ownBlock ≠ some gc | 2 => fun (rs : List Value) (w : World) => ∃ v, Pn w gp gp (W0 ++ [pi] ++ lowN x0 4) v ∧ v.ownBlock ≠ some gc | 3 => fun (rs : List Value) (w : World) => ∃ v, Pn w gp gp (W0 ++ [pi] ++ lowN x0 4 ++ lowN y0 4) v ∧ v.ownBlock ≠ some gc | _ => fun _ _ => False)
          (fun _ _ _ => True) (fun w => Below gp V0 w ∧ gp ≤ w.heap.size ∧ w.heap[gc]? = some (.cells #[.int .i32 z0, .int .u32 y0] 30 (0, 0)))
          (fun j =>  none)
          [(0, some 28), (1, some 29), (2, some 30), (3, some 31), (4, some 32), (5, some 33), (6, some 34), (7, some 35), (8, some 36), (9, some 37), (10, some 38), (11, some 39), (12, some 40)]
          []
          (by kernel_rfl) (by kernel_rfl) (by kernel_rfl) (by kernel_rfl) (by kernel_rfl) ?z8_2c ?z8_2i ?z8_2b ?z8_2d ?z8_2g ⟨?z8_2t0, ?z8_2t1, ?z8_2t2, ?z8_2t3, ?z8_2t4, ?z8_2t5, ?z8_2t6, ?z8_2t7, ?z8_2t8, ?z8_2t9, ?z8_2t10, ?z8_2t11, ?z8_2t12, trivial⟩ ⟨?z8_2o0, ?z8_2o1, ?z8_2o2, ?z8_2o3, ?z8_2o4, ?z8_2o5, ?z8_2o6, ?z8_2o7, ?z8_2o8, ?z8_2o9, ?z8_2o10, ?z8_2o11, ?z8_2o12, trivial⟩ ?z8_2e
        case z8_2c => exact ⟨HC0.out.trans (below_drew (Below.refl _ _)), GSZ.out, GC0.out⟩
        case z8_2i => exact HS0.out
        case z8_2b => intro w w' hb h; exact ⟨h.1.trans (hb.mono h.2.1), Nat.le_trans h.2.1 hb.size, blk_below h.2.2 hb⟩
        case z8_2d =>
          intro t rs w w' hb h
          match t, h with
          | 0, h => (replace h : ∃ v, Pn w gp gp W0 v ∧ v.ownBlock ≠ some gc := h); show ∃ v, Pn w' gp gp W0 v ∧ v.ownBlock ≠ some gc; (obtain ⟨v, h, h2⟩ := h; exact ⟨v, h.below hb, h2⟩)
          | 1, h => (replace h : ∃ v, Pn w gp gp (W0 ++ [pi]) v ∧ v.ownBlock ≠ some gc := h); show ∃ v, Pn w' gp gp (W0 ++ [pi]) v ∧ v.ownBlock ≠ some gc; (obtain ⟨v, h, h2⟩ := h; exact ⟨v, h.below hb, h2⟩)
          | 2, h => (replace h : ∃ v, Pn w gp gp (W0 ++ [pi] ++ lowN x0 4) v ∧ v.ownBlock ≠ some gc := h); show ∃ v, Pn w' gp gp (W0 ++ [pi] ++ lowN x0 4) v ∧ v.ownBlock ≠ some gc; (obtain ⟨v, h, h2⟩ := h; exact ⟨v, h.below hb, h2⟩)
          | 3, h => (replace h : ∃ v, Pn w gp gp (W0 ++ [pi] ++ lowN x0 4 ++ lowN y0 4) v ∧ v.ownBlock ≠ some gc := h); show ∃ v, Pn w' gp gp (W0 ++ [pi] ++ lowN x0 4 ++ lowN y0 4) v ∧ v.ownBlock ≠ some gc; (obtain ⟨v, h, h2⟩ := h; exact ⟨v, h.below hb, h2⟩)
          | _ + 4, h => exact h.elim
        case z8_2g =>
          intro j hj; cases hj
        case z8_2t0 => exact StabS.const _ _ _ _
        case z8_2t1 => exact StabS.const _ _ _ _
        case z8_2t2 => exact StabS.const _ _ _ _
        case z8_2t3 => exact StabS.const _ _ _ _
        case z8_2t4 => exact StabS.const _ _ _ _
        case z8_2t5 => exact StabS.const _ _ _ _
        case z8_2t6 => exact StabS.const _ _ _ _
        case z8_2t7 => exact StabS.const _ _ _ _
        case z8_2t8 => exact StabS.const _ _ _ _
        case z8_2t9 => exact StabS.const _ _ _ _
        case z8_2t10 => exact StabS.const _ _ _ _
        case z8_2t11 => exact StabS.const _ _ _ _
        case z8_2t12 => exact StabS.const _ _ _ _
        case z8_2o0 =>
          intro vs w t hC ht1 ht2 hS hV
          rw [if_pos (by kernel_rfl)]
          generalize hρ : rho _ _ _ vs = ρ
          have e1 : ρ (.tmp 1) = .pointer (some ⟨gd, 0, none⟩) := by rw [← hρ]; kernel_rfl
          clear hρ hV
          refine runs_val (v := .pointer (some ⟨gd, 2, none⟩)) (w' := w) ?_ ⟨Below.refl _ _, rfl⟩
          clear ht1 ht2 hS hC
          go_simp <;> (first | exact IntWalk.u64_in _ (by omega) | exact IntWalk.u32_in _ (by omega) | exact IntWalk.u16_in _ (by omega) | exact IntWalk.u8_in _ (by omega) | exact IntWalk.i64_in _ (by omega) | skip)
        case z8_2o1 =>
          intro vs w t hC ht1 ht2 hS hV
          rw [if_pos (by kernel_rfl)]
          generalize hρ : rho _ _ _ vs = ρ
          have d28 : (vs 0) = .pointer (some ⟨gd, 2, none⟩) := hV 0 (by kernel_rfl)
          have e28 : ρ (.tmp 28) = vs 0 := by rw [← hρ]; kernel_rfl
          rw [d28] at e28; clear d28
          clear hρ hV
          have c0 := blk_cell ((hC.1.block gd GD.out).trans HG0.out) 2
          refine runs_val (v := .slice (some adp) n c) (w' := w) ?_ ⟨Below.refl _ _, rfl⟩
          clear ht1 ht2 hS hC
          go_simp
        case z8_2o2 =>
          intro vs w t hC ht1 ht2 hS hV
          rw [if_pos (by kernel_rfl)]
          generalize hρ : rho _ _ _ vs = ρ
          have e4 : ρ (.tmp 4) = .int .i64 i := by rw [← hρ]; kernel_rfl
          clear hρ hV
          refine runs_val (v := .int .i64 i) (w' := w) ?_ ⟨Below.refl _ _, rfl⟩
          clear ht1 ht2 hS hC
          go_simp <;> (first | exact IntWalk.u64_in _ (by omega) | exact IntWalk.u32_in _ (by omega) | exact IntWalk.u16_in _ (by omega) | exact IntWalk.u8_in _ (by omega) | exact IntWalk.i64_in _ (by omega) | skip)
        case z8_2o3 =>
          intro vs w t hC ht1 ht2 hS hV
          rw [if_pos (by kernel_rfl)]
          generalize hρ : rho _ _ _ vs = ρ
          have d29 : (vs 1) = .slice (some adp) n c := hV 1 (by kernel_rfl)
          have e29 : ρ (.tmp 29) = vs 1 := by rw [← hρ]; kernel_rfl
          rw [d29] at e29; clear d29
          have d30 : (vs 2) = .int .i64 i := hV 2 (by kernel_rfl)
          have e30 : ρ (.tmp 30) = vs 2 := by rw [← hρ]; kernel_rfl
          rw [d30] at e30; clear d30
          clear hρ hV
          refine runs_val (v := .pointer (some (adp.add i))) (w' := w) ?_ ⟨Below.refl _ _, rfl⟩
          clear ht1 ht2 hS hC
          go_simp <;> (first | exact IntWalk.u64_in _ (by omega) | exact IntWalk.u32_in _ (by omega) | exact IntWalk.u16_in _ (by omega) | exact IntWalk.u8_in _ (by omega) | exact IntWalk.i64_in _ (by omega) | skip)
        case z8_2o4 =>
          intro vs w t hC ht1 ht2 hS hV
          rw [if_pos (by kernel_rfl)]
          generalize hρ : rho _ _ _ vs = ρ
          have d31 : (vs 3) = .pointer (some (adp.add i)) := hV 3 (by kernel_rfl)
          have e31 : ρ (.tmp 31) = vs 3 := by rw [← hρ]; kernel_rfl
          rw [d31] at e31; clear d31
          clear hρ hV
          have c0 := HPI.out w hC.1
          refine runs_val (v := .int .u8 pi) (w' := w) ?_ ⟨Below.refl _ _, rfl⟩
          clear ht1 ht2 hS hC
          go_simp
        case z8_2o5 =>
          intro vs w hC hS hV
          replace hS : ∃ v, Pn w gp gp W0 v ∧ v.ownBlock ≠ some gc := hS
          rw [if_pos (by kernel_rfl)]
          generalize hρ : rho _ _ _ vs = ρ
          have e3 : ρ (.tmp 3) = .pointer (some ⟨gp, 0, none⟩) := by rw [← hρ]; kernel_rfl
          have d32 : (vs 4) = .int .u8 pi := hV 4 (by kernel_rfl)
          have e32 : ρ (.tmp 32) = vs 4 := by rw [← hρ]; kernel_rfl
          rw [d32] at e32; clear d32
          have ef39 : ρ (.func 39) = .func (.func 39) #[] #[] := by rw [← hρ]; rfl
          clear hρ hV
          obtain ⟨v, hp, hv⟩ := hS
          refine runs_call (f := 39) (args := #[.pointer (some ⟨gp, 0, none⟩), .int .u8 pi]) (w' := w) ?_ ?_
          · go_simp
          · refine (pbyte_any gp gp W0 v _ w hp (Nat.le_refl _) (by have := HLEN.out; omega)).mono ?_
            rintro e w5 ⟨v', rfl, h⟩
            obtain ⟨k1, k2⟩ := h.blk hC.2.2 GNE.out.1 hv
            exact ⟨_, rfl, ⟨hC.1.trans h.2.2.2, Nat.le_trans hC.2.1 h.2.1.1, k1⟩, trivial, rfl, ⟨v', h.1, k2⟩⟩
        case z8_2o6 =>
          intro vs w t hC ht1 ht2 hS hV
          rw [if_pos (by kernel_rfl)]
          generalize hρ : rho _ _ _ vs = ρ
          have e5 : ρ (.tmp 5) = .pointer (some ⟨gc, 0, none⟩) := by rw [← hρ]; kernel_rfl
          clear hρ hV
          refine runs_val (v := .pointer (some ⟨gc, 0, none⟩)) (w' := w) ?_ ⟨Below.refl _ _, rfl⟩
          clear ht1 ht2 hS hC
          go_simp <;> (first | exact IntWalk.u64_in _ (by omega) | exact IntWalk.u32_in _ (by omega) | exact IntWalk.u16_in _ (by omega) | exact IntWalk.u8_in _ (by omega) | exact IntWalk.i64_in _ (by omega) | skip)
        case z8_2o7 =>
          intro vs w t hC ht1 ht2 hS hV
          rw [if_pos (by kernel_rfl)]
          generalize hρ : rho _ _ _ vs = ρ
          have d34 : (vs 6) = .pointer (some ⟨gc, 0, none⟩) := hV 6 (by kernel_rfl)
          have e34 : ρ (.tmp 34) = vs 6 := by rw [← hρ]; kernel_rfl
          rw [d34] at e34; clear d34
          clear hρ hV
          have c0 := blk_cell hC.2.2 0
          refine runs_val (v := .int .i32 z0) (w' := w) ?_ ⟨Below.refl _ _, rfl⟩
          clear ht1 ht2 hS hC
          go_simp
        case z8_2o8 =>
          intro vs w t hC ht1 ht2 hS hV
          rw [if_pos (by kernel_rfl)]
          generalize hρ : rho _ _ _ vs = ρ
          have d35 : (vs 7) = .int .i32 z0 := hV 7 (by kernel_rfl)
          have e35 : ρ (.tmp 35) = vs 7 := by rw [← hρ]; kernel_rfl
          rw [d35] at e35; clear d35
          clear hρ hV
          have ix := HXW.out.1
          refine runs_val (v := .int .u32 x0) (w' := w) ?_ ⟨Below.refl _ _, rfl⟩
          clear ht1 ht2 hS hC
          rw [← ix]
          clear ix
          go_simp
        case z8_2o9 =>
          intro vs w hC hS hV
          replace hS : ∃ v, Pn w gp gp (W0 ++ [pi]) v ∧ v.ownBlock ≠ some gc := hS
          rw [if_pos (by kernel_rfl)]
          generalize hρ : rho _ _ _ vs = ρ
          have d33 : (vs 5) = .pointer (some ⟨gp, 0, none⟩) := hV 5 (by kernel_rfl)
          have e33 : ρ (.tmp 33) = vs 5 := by rw [← hρ]; kernel_rfl
          rw [d33] at e33; clear d33
          have d36 : (vs 8) = .int .u32 x0 := hV 8 (by kernel_rfl)
          have e36 : ρ (.tmp 36) = vs 8 := by rw [← hρ]; kernel_rfl
          rw [d36] at e36; clear d36
          have ef38 : ρ (.func 38) = .func (.func 38) #[] #[] := by rw [← hρ]; rfl
          clear hρ hV
          obtain ⟨v, hp, hv⟩ := hS
          refine runs_call (f := 38) (args := #[.pointer (some ⟨gp, 0, none⟩), .int .u32 x0]) (w' := w) ?_ ?_
          · go_simp
          · refine (pword_any gp gp (W0 ++ [pi]) v x0 HXW.out.2.1 w hp (Nat.le_refl _) (by have := HLEN.out; simp only [List.length_append, List.length_cons, List.length_nil]; omega)).mono ?_
            rintro e w5 ⟨v', rfl, h⟩
            obtain ⟨k1, k2⟩ := h.blk hC.2.2 GNE.out.1 hv
            exact ⟨_, rfl, ⟨hC.1.trans h.2.2.2, Nat.le_trans hC.2.1 h.2.1.1, k1⟩, trivial, rfl, ⟨v', h.1, k2⟩⟩
        case z8_2o10 =>
          intro vs w t hC ht1 ht2 hS hV
          rw [if_pos (by kernel_rfl)]
          generalize hρ : rho _ _ _ vs = ρ
          have e5 : ρ (.tmp 5) = .pointer (some ⟨gc, 0, none⟩) := by rw [← hρ]; kernel_rfl
          clear hρ hV
          refine runs_val (v := .pointer (some ⟨gc, 1, none⟩)) (w' := w) ?_ ⟨Below.refl _ _, rfl⟩
          clear ht1 ht2 hS hC
          go_simp <;> (first | exact IntWalk.u64_in _ (by omega) | exact IntWalk.u32_in _ (by omega) | exact IntWalk.u16_in _ (by omega) | exact IntWalk.u8_in _ (by omega) | exact IntWalk.i64_in _ (by omega) | skip)
        case z8_2o11 =>
          intro vs w t hC ht1 ht2 hS hV
          rw [if_pos (by kernel_rfl)]
          generalize hρ : rho _ _ _ vs = ρ
          have d38 : (vs 10) = .pointer (some ⟨gc, 1, none⟩) := hV 10 (by kernel_rfl)
          have e38 : ρ (.tmp 38) = vs 10 := by rw [← hρ]; kernel_rfl
          rw [d38] at e38; clear d38
          clear hρ hV
          have c0 := blk_cell hC.2.2 1
          refine runs_val (v := .int .u32 y0) (w' := w) ?_ ⟨Below.refl _ _, rfl⟩
          clear ht1 ht2 hS hC
          go_simp
        case z8_2o12 =>
          intro vs w hC hS hV
          replace hS : ∃ v, Pn w gp gp (W0 ++ [pi] ++ lowN x0 4) v ∧ v.ownBlock ≠ some gc := hS
          rw [if_pos (by kernel_rfl)]
          generalize hρ : rho _ _ _ vs = ρ
          have d37 : (vs 9) = .pointer (some ⟨gp, 0, none⟩) := hV 9 (by kernel_rfl)
          have e37 : ρ (.tmp 37) = vs 9 := by rw [← hρ]; kernel_rfl
          rw [d37] at e37; clear d37
          have d39 : (vs 11) = .int .u32 y0 := hV 11 (by kernel_rfl)
          have e39 : ρ (.tmp 39) = vs 11 := by rw [← hρ]; kernel_rfl
          rw [d39] at e39; clear d39
          have ef38 : ρ (.func 38) = .func (.func 38) #[] #[] := by rw [← hρ]; rfl
          clear hρ hV
          obtain ⟨v, hp, hv⟩ := hS
          refine runs_call (f := 38) (args := #[.pointer (some ⟨gp, 0, none⟩), .int .u32 y0]) (w' := w) ?_ ?_
          · go_simp
          · refine (pword_any gp gp (W0 ++ [pi] ++ lowN x0 4) v y0 HXW.out.2.2 w hp (Nat.le_refl _) (by have := HLEN.out; simp only [List.length_append, List.length_cons, List.length_nil, lowN_length]; omega)).mono ?_
            rintro e w5 ⟨v', rfl, h⟩
            obtain ⟨k1, k2⟩ := h.blk hC.2.2 GNE.out.1 hv
            exact ⟨_, rfl, ⟨hC.1.trans h.2.2.2, Nat.le_trans hC.2.1 h.2.1.1, k1⟩, trivial, rfl, ⟨v', h.1, k2⟩⟩
        case z8_2e =>
          intro vs z2 hC hS hV
          replace hS : (fun (w : World) => ∃ v, Pn w gp gp (W0 ++ [pi] ++ lowN x0 4 ++ lowN y0 4) v ∧ v.ownBlock ≠ some gc) z2 := hS
          have d28 : (vs 0) = .pointer (some ⟨gd, 2, none⟩) := hV 0 (Nat.le_of_ble_eq_true rfl)
          have d29 : (vs 1) = .slice (some adp) n c := hV 1 (Nat.le_of_ble_eq_true rfl)
          have d30 : (vs 2) = .int .i64 i := hV 2 (Nat.le_of_ble_eq_true rfl)
          have d31 : (vs 3) = .pointer (some (adp.add i)) := hV 3 (Nat.le_of_ble_eq_true rfl)
          have d32 : (vs 4) = .int .u8 pi := hV 4 (Nat.le_of_ble_eq_true rfl)
          have d33 : (vs 5) = .pointer (some ⟨gp, 0, none⟩) := hV 5 (Nat.le_of_ble_eq_true rfl)
          have d34 : (vs 6) = .pointer (some ⟨gc, 0, none⟩) := hV 6 (Nat.le_of_ble_eq_true rfl)
          have d35 : (vs 7) = .int .i32 z0 := hV 7 (Nat.le_of_ble_eq_true rfl)
          have d36 : (vs 8) = .int .u32 x0 := hV 8 (Nat.le_of_ble_eq_true rfl)
          have d37 : (vs 9) = .pointer (some ⟨gp, 0, none⟩) := hV 9 (Nat.le_of_ble_eq_true rfl)
          have d38 : (vs 10) = .pointer (some ⟨gc, 1, none⟩) := hV 10 (Nat.le_of_ble_eq_true rfl)
          have d39 : (vs 11) = .int .u32 y0 := hV 11 (Nat.le_of_ble_eq_true rfl)
          have d40 : (vs 12) = .pointer (some ⟨gp, 0, none⟩) := hV 12 (Nat.le_of_ble_eq_true rfl)
          clear hV
          simp only [putAll]
          rw [d28, d29, d30, d31, d32, d33, d34, d35, d36, d37, d38, d39, d40]
          clear d28 d29 d30 d31 d32 d33 d34 d35 d36 d37 d38 d39 d40
          clear vs
          simp only [Act.put, List.setIfInBounds_toArray, List.set_cons_zero, List.set_cons_succ]
          have HE : Aside0 ((∃ v, Pn z2 gp gp (dHead tk hs n ++ dRows (P.take (i + 1)) (C.take (i + 1))) v) ∧ Below gp V0 z2) := ⟨by
            obtain ⟨v, h1, _⟩ := hS
            refine ⟨⟨v, ?_⟩, hC.1⟩
            rw [HROW.out, ← List.append_assoc, HW0.out]
            have e : W0 ++ (pi :: (lowN x0 4 ++ lowN y0 4)) = W0 ++ [pi] ++ lowN x0 4 ++ lowN y0 4 := by simp
            rw [e]; exact h1⟩
          clear hS hC HC0 HS0 GC0 GNE GSZ
          go_wp2_with fail
          go_roundw
          case rel => exact ⟨i + 1, by omega, by go_num, HE⟩
          case measure => simp [intOf]; omega
      · obtain rfl : i = m := by omega
        have d1 : decide (i < i) = false := decide_eq_false (by omega)
        obtain ⟨v, hv⟩ := H.out.1
        have HE : Aside0 (dHead tk hs n ++ dRows (P.take i) (C.take i) = dBytes tk hs P C) := ⟨by unfold dBytes; rw [List.take_of_length_le (by rw [HNP.out, HPC.out.1]; omega), List.take_of_length_le (by rw [HPC.out.2.1]; omega), HNP.out]⟩
        rw [HE.out] at hv
        have HLEN : Aside0 ((dBytes tk hs P C).length ≤ 1000000) := ⟨by
          have h1 := dRows_len P C
          have := HPC.out
          have := HNP.out
          simp only [dBytes, List.length_append, dHead, lowN_length, List.length_cons, List.length_nil]
          omega⟩
        have KEY := Aside0.mk (pbytes_any gp gp (dBytes tk hs P C) v wr hv HLEN.out)
        have HBW := Aside0.mk H.out.2
        have GSW : Aside0 (gp ≤ wr.heap.size) := ⟨Nat.le_of_lt hv.lt⟩
        clear hv H HLEN HE
        generalize hdw : dBytes tk hs P C = dw at *
        have HDW := Aside0.mk hdw
        clear hdw
        go_wp2_with fail
        refine KEY.out.mono ?_
        rintro e wz ⟨vo, rfl, k1, k2⟩
        have K1 := Aside0.mk k1
        have K2 := Aside0.mk k2
        clear k1 k2 KEY
        go_wp2_with fail
        go_ret
        rw [HGD.out]
        try rw [HDW.out]
        exact ⟨vo, rfl, Kd.R_lower K1.out (Nat.le_trans (Nat.le_of_lt GD.out) GSW.out), H1.out.bel.trans ((HBW.out.trans (K2.out.mono GSW.out)).mono (Nat.le_of_lt GD.out))⟩
end Go.Proofs.Ytkhlalpkkmjfnaa

namespace Go.Proofs.Ytkhlalpkkmjfnaa
open Go.RowKit Go.Proofs.YtkhlalpkkmjfnaaW.PrintWords Go.Proofs.YtkhlalpkkmjfnaaW.PrintLast Go.Proofs.YtkhlalpkkmjfnaaW.PrintMore
set_option linter.unusedVariables false
set_option linter.unusedSimpArgs false

/-- What delta.Of tells, as a value and rows. -/
def OfR (w0 : Nat) (w' : World) (tk hs : Int) (P : List Int) (C : List S30) (v : Value) : Prop :=
  ∃ A c A2 c2, v = .agg #[.int .u32 tk, .int .u32 hs, .slice A P.length c, .slice A2 C.length c2] ∧ P.length ≤ c ∧ C.length ≤ c2 ∧
    (Kd.int .u8).R 5 w' w0 (fun _ => True) (.slice A P.length c) P ∧ k30.R 30 w' w0 (fun _ => True) (.slice A2 C.length c2) C
theorem OfR.cells {w0 : Nat} {w' : World} {tk hs : Int} {P : List Int} {C : List S30} {v : Value} (h : OfR w0 w' tk hs P C v) :
    ∃ A c A2 c2, v = .agg #[.int .u32 tk, .int .u32 hs, .slice A P.length c, .slice A2 C.length c2] ∧ P.length ≤ c ∧ C.length ≤ c2 ∧ (Kd.int .u8).C w' A P.length P ∧ k30.C w' A2 C.length C := by
  obtain ⟨A, c, A2, c2, rfl, h1, h2, h3, h4⟩ := h
  exact ⟨A, c, A2, c2, rfl, h1, h2, (Ru_C h3).2.2, (Ru_C h4).2.2⟩
theorem of_full (f : Nat → S30) (n t : Nat) (o tk : Int) (w : World) (hn : n ≤ 48) (ht : t < 18446744073709551616) (hf : ∀ k, k < n → U32 (f k).f1) :
    Calls Try.prog 13 #[.agg (boardC f n), .int .u64 t, .int .i64 o, .int .u32 tk] w fun e w' => ∃ v, e = .returned v ∧ OfR w.heap.size w' tk (sumB true (listF (viewF f n o) n)) (plL t n) (clL (viewF f n o) t n) v ∧ Below w.heap.size w w' := by
  refine (of_any f n t o tk w hn ht hf).mono ?_
  rintro e w' ⟨vP, vC, rfl, h1, h2, h3⟩
  obtain ⟨A, c, rfl, l1, _⟩ := Kd.R_reads h1
  obtain ⟨A2, c2, rfl, l2, _⟩ := Kd.R_reads h2
  exact ⟨_, rfl, ⟨A, c, A2, c2, rfl, l1, l2, h1, h2⟩, h3⟩
def allT : Nat := 18446744073709551615
set_option maxRecDepth 100000 in
set_option maxHeartbeats 4000000 in
theorem full_any (f : Nat → S30) (n : Nat) (o tk : Int) (w : World) (hn : n ≤ 48) (hf : ∀ k, k < n → U32 (f k).f1) :
    Calls Try.prog 15 #[.agg (boardC f n), .int .i64 o, .int .u32 tk] w fun e w' => ∃ v, e = .returned v ∧ OfR w.heap.size w' tk (sumB true (listF (viewF f n o) n)) (plL allT n) (clL (viewF f n o) allT n) v ∧ Below w.heap.size w w' := by
  have HI := fun f m => Aside0.mk (board_info f m)
  have H0 := Aside0.mk (((Hp.start w).alloc (.cells (boardC f n) 34)).allocAt (.cells #[.int .u32 0, .int .u32 0, .slice none 0 0, .slice none 0 0] 41) (w.heap.size + 1) (by simp))
  have KEY := fun X : World => Aside0.mk (of_full f n allT o tk X hn (by decide) hf)
  have hA : ((allT : Nat) : Int) = 18446744073709551615 := by decide
  rw [hA] at KEY
  clear hA hn hf
  generalize plL allT n = P at *
  generalize clL (viewF f n o) allT n = C at *
  generalize sumB true (listF (viewF f n o) n) = hs at *
  go_enter Try.func15, Try.ntmps15
  go_wp2_with (first | (refine wpList_load_row_g 34 (.tmp 3) rfl (w.heap.size) rfl rfl 34 _ (0, 0) _ (H0.out.get (i := 1) rfl) Try.underlying34 rfl (HI _ _).out ?_))
  refine (KEY _).out.mono ?_
  rintro e w1 ⟨v, rfl, hv, hb1⟩
  have H1 := Aside0.mk (H0.out.call hb1)
  have HV := Aside0.mk hv
  obtain ⟨A, c, A2, c2, rfl, _, _, h3, h4⟩ := hv
  have H2 := Aside0.mk (H1.out.setRow (i := 0) rfl #[.int .u32 tk, .int .u32 hs, .slice A P.length c, .slice A2 C.length c2])
  have HP := Aside0.mk h3
  have HC := Aside0.mk h4
  generalize hp : P.length = p at *
  generalize hc : C.length = q at *
  have HPQ := Aside0.mk (And.intro hp hc)
  have HL : Aside0 ((.slice A p c : Value).ownBlock ≠ some (w.heap.size + 1) ∧ (.slice A2 q c2 : Value).ownBlock ≠ some (w.heap.size + 1)) := ⟨fun e => Kd.R_ne h3 (H1.out.get (i := 0) rfl) (by decide) e.symm, fun e => Kd.R_ne h4 (H1.out.get (i := 0) rfl) (by decide) e.symm⟩
  clear hb1 KEY H0 h3 h4 hp hc
  go_wp2_with (first | (refine wpList_store_row rfl 41 (.tmp 6) (.tmp 10) rfl (w.heap.size + 1) #[.int .u32 tk, .int .u32 hs, .slice A p c, .slice A2 q c2] rfl rfl 41 _ (H1.out.get (i := 0) rfl) (delta_info _ _ _ _) rfl (by simp [Value.oneCell']) ?_))
  refine bodyPost_ret (results_cell_row rfl _ _ (w.heap.size + 1) _ #[.int .u32 tk, .int .u32 hs, .slice A p c, .slice A2 q c2] (0, 0) _ rfl (H2.out.get (i := 0) rfl) Try.underlying41 rfl (delta_info _ _ _ _)) rfl ?_
  obtain ⟨e1, e2⟩ := HPQ.out
  subst e1 e2
  obtain ⟨A', c', A2', c2', ee, l1, l2, _, _⟩ := HV.out
  simp only [Value.agg.injEq, Array.mk.injEq, List.cons.injEq, Value.slice.injEq, true_and, and_true] at ee
  obtain ⟨⟨rfl, rfl⟩, rfl, rfl⟩ := ee
  have rP := Kd.R_lower HP.out (show w.heap.size ≤ _ by simp; omega)
  have rC := Kd.R_lower HC.out (show w.heap.size ≤ _ by simp; omega)
  exact ⟨_, rfl, ⟨A, c, A2, c2, rfl, l1, l2, Kd.R_grown2 rP rfl (grown_setRow _ _ _) (fun k hk e => HL.out.1 (by rw [← e, hk])), Kd.R_grown2 rC rfl (grown_setRow _ _ _) (fun k hk e => HL.out.2 (by rw [← e, hk]))⟩, H2.out.bel⟩
end Go.Proofs.Ytkhlalpkkmjfnaa

namespace Go.Proofs.Ytkhlalpkkmjfnaa
open Go.RowKit Go.Proofs.YtkhlalpkkmjfnaaW.PrintWords Go.Proofs.YtkhlalpkkmjfnaaW.PrintLast Go.Proofs.YtkhlalpkkmjfnaaW.PrintMore
set_option linter.unusedVariables false
set_option linter.unusedSimpArgs false

theorem few7_f (L : List S30) : hoodwinklaw07_few.f L = some (L.take 48) := by
  unfold hoodwinklaw07_few.f
  have h1 : (0 : Int) ≤ mn (L.length : Int) 48 := by unfold mn; split <;> omega
  have h2 : mn (L.length : Int) 48 ≤ (L.length : Int) := by unfold mn; split <;> omega
  have h3 : (mn (L.length : Int) 48).toNat = min L.length 48 := by unfold mn; split <;> omega
  have h4 : L.take (min L.length 48) = L.take 48 := by rw [List.take_eq_take_iff]; omega
  show ((if 0 ≤ mn (L.length : Int) 48 then _ else none : Option (List S30))) = _
  rw [if_pos h1, if_pos h2, h3, h4]
  show ((if ([] : List S30).length + (L.take 48).length < 17592186044416 then some ([] ++ L.take 48) else none : Option (List S30))) = _
  rw [if_pos (by rw [List.length_take]; simp; omega), List.nil_append]
theorem few7_any (A : Option Addr) (n c : Nat) (L : List S30) (w : World) (hr : k30.C w A n L) (hc : n ≤ c) :
    Calls Try.prog 9 #[.slice A n c] w fun e w' => ∃ v, e = .returned v ∧ k30.R 30 w' w.heap.size (fun _ => True) v (L.take 48) ∧ Below w.heap.size w w' := by
  obtain rfl := hr.1
  exact hoodwinklaw07_few.calls A c L _ w hr hc (few7_f L)
/-- A row of cells that the call has made. -/
theorem C_of_cells {w : World} {g : Nat} {L : List S30} (h : w.heap[g]? = some (.cells (flatC L).toArray 30 (0, 0))) (hm : L.length ≤ 1000000) : k30.C w (some ⟨g, 0, none⟩) L.length L := Rc.reads h hm
theorem add0' (ad : Addr) : ad.add 0 = ad := by cases ad; simp [Addr.add]
theorem has_zero : hasB 0 0 = false := by kernel_rfl
theorem ex_places : plL 2 2 = [1] := by decide
theorem ex_cells (f : Nat → S30) : clL f 2 2 = [f 1] := by
  have : touchL 2 2 = [1] := by decide
  unfold clL; rw [this]; rfl

set_option maxRecDepth 100000 in
set_option maxHeartbeats 4000000 in
theorem awake7_any (w : World) : Calls Try.prog 8 #[] w fun e w' => e = .returned (.bool true) ∧ Below w.heap.size w w' := by
  have hz := zero_board
  have HI := fun f m => Aside0.mk (board_info f m)
  have HO := fun f m => Aside0.mk (boardC_one f m)
  have KN := Aside0.mk (new_any (some ⟨w.heap.size, 0, none⟩) 2 2 [⟨7, 1⟩, ⟨8, 0⟩] _ (C_of_cells (L := [⟨7, 1⟩, ⟨8, 0⟩]) (blk_new w (.cells #[.int .i32 7, .int .u32 1, .int .i32 8, .int .u32 0] 30)) (by decide)) (by decide) (by decide))
  have H0 := Aside0.mk ((Hp.start w).call (below_alloc (Below.refl w.heap.size w) (.cells #[.int .i32 7, .int .u32 1, .int .i32 8, .int .u32 0] 30)))
  go_enter Try.func8, Try.ntmps8
  go_wp2_with fail
  refine KN.out.mono ?_
  rintro e w2 ⟨rfl, hb2⟩
  have H1 := Aside0.mk (H0.out.call hb2)
  clear hb2 KN H0
  obtain ⟨f, hf⟩ : ∃ f, fL [⟨7, 1⟩, ⟨8, 0⟩] = f := ⟨_, rfl⟩
  have HF : Aside0 (f 0 = ⟨7, 1⟩ ∧ f 1 = ⟨8, 0⟩) := ⟨by rw [← hf]; exact ⟨rfl, rfl⟩⟩
  rw [hf]
  clear hf
  have HZ := Aside0.mk (blk_new w2 (.cells (boardC (fun _ => z30) 0) 34))
  have H2 := Aside0.mk ((H1.out.alloc (.cells (boardC (fun _ => z30) 0) 34)).setRow (i := 0) rfl (boardC f 2))
  clear H1
  go_wp2_with (first | (refine wpList_load_row_g 34 (.tmp 1) rfl (w2.heap.size) rfl rfl 34 _ (0, 0) _ (H2.out.get (i := 0) rfl) Try.underlying34 rfl (HI _ _).out ?_) | (refine wpList_store_row rfl 34 (.tmp 1) (.tmp 9) rfl (w2.heap.size) (boardC f 2) rfl rfl 34 _ HZ.out (HI _ _).out (by rw [boardC_size, boardC_size]) (HO _ _).out ?_))
  have HU : Aside0 (∀ k, k < 2 → U32 (f k).f1) := ⟨fun k hk => by
    match k, hk with
    | 0, _ => rw [HF.out.1]; unfold U32; decide
    | 1, _ => rw [HF.out.2]; unfold U32; decide⟩
  have KO := fun X : World => Aside0.mk (of_full f 2 2 0 5 X (by decide) (by decide) HU.out)
  rw [ex_places, ex_cells] at KO
  have hv : viewF f 2 0 1 = ⟨0, 0⟩ := by unfold viewF; rw [HF.out.2]; rw [if_pos ⟨by decide, has_zero⟩]
  rw [hv] at KO
  clear hv
  have HHS : Aside0 (sumB true (listF (viewF f 2 0) 2) < 4294967296) := ⟨by unfold sumB sumN; omega⟩
  generalize sumB true (listF (viewF f 2 0) 2) = hs at *
  generalize (w2.alloc (.cells (boardC (fun _ => z30) 0) 34)).setRow w2.heap.size (boardC f 2) = w3 at *
  refine (KO _).out.mono ?_
  rintro e w4 ⟨v, rfl, hv, hb4⟩
  have H3 := Aside0.mk (H2.out.call hb4)
  obtain ⟨A, c, A2, c2, rfl, l1, l2, h3, h4⟩ := hv.cells
  have hb5 := below_alloc (Below.refl w4.heap.size w4) (.cells #[.int .u32 5, .int .u32 hs, .slice A 1 c, .slice A2 1 c2] 41)
  have H4 := Aside0.mk (H3.out.alloc (.cells #[.int .u32 5, .int .u32 hs, .slice A 1 c, .slice A2 1 c2] 41))
  have KB := Aside0.mk (dbytes_yes 5 hs A A2 1 c 1 c2 [1] [⟨0, 0⟩] _ (Kd.C_below h3 hb5) l1 (Kd.C_below h4 hb5) l2 (by decide) (by decide) HHS.out (by intro x hx; obtain rfl := List.mem_singleton.1 hx; unfold U32; decide))
  have e5 : ((5 : Nat) : Int) = 5 := rfl
  rw [e5] at KB
  clear e5
  have HD := Aside0.mk (And.intro (Kd.C_below h3 hb5) (Kd.C_below h4 hb5))
  clear hb4 hb5 hv l1 l2 h3 h4 KO HZ H2 HU H3
  go_wp2_with (first | (refine wpList_load_row_g 41 (.tmp 3) rfl (w4.heap.size) rfl rfl 41 _ (0, 0) _ (H4.out.get (i := 0) rfl) Try.underlying41 rfl (delta_info _ _ _ _) ?_))
  refine KB.out.mono ?_
  rintro e w5 ⟨vb, rfl, hvb, hb6⟩
  obtain ⟨Q, d, rfl, l3, _⟩ := Kd.R_reads hvb
  have hlen : (dBytes 5 hs [1] [⟨0, 0⟩]).length = 18 := by simp [dBytes, dHead, dRows, dCell, cellB, lowN_length]
  rw [hlen]
  have H5 := Aside0.mk (H4.out.call hb6)
  obtain ⟨adp, rfl, p0⟩ := int_at (Kd.C_below HD.out.1 hb6) 0 (by decide)
  obtain ⟨adc, rfl, q0, q1⟩ := cell_at25 (Kd.C_below HD.out.2 hb6) (j := 0) (by decide)
  rw [List.getElem_cons_zero, add0'] at p0
  rw [List.getElem_cons_zero, Nat.zero_mul, add0'] at q0
  have c0 := blk_cell (H5.out.get (i := 0) rfl) 0
  have c2 := blk_cell (H5.out.get (i := 0) rfl) 2
  have c3 := blk_cell (H5.out.get (i := 0) rfl) 3
  clear hvb l3 hlen hb6 KB HD H4 q1
  go_wp2_with fail
  go_ret
  exact ⟨rfl, H5.out.bel⟩
end Go.Proofs.Ytkhlalpkkmjfnaa

namespace Go.Proofs.Ytkhlalpkkmjfnaa
open Go.RowKit Go.Proofs.YtkhlalpkkmjfnaaW.PrintWords Go.Proofs.YtkhlalpkkmjfnaaW.PrintLast Go.Proofs.YtkhlalpkkmjfnaaW.PrintMore
set_option linter.unusedVariables false
set_option linter.unusedSimpArgs false

theorem same_l0 (x y : List Int) (hl : x.length = y.length) (hx : x.length ≤ 9223372036854775807) : ∀ (d k i : Nat), i + d = x.length → d < k →
    hoodwinkref01_Same.l0 k x y (x.length : Int) (i : Int) = some (decide (x.drop i = y.drop i))
  | 0, k, i, hi, hk => by
    obtain ⟨k, rfl⟩ : ∃ q, k = q + 1 := ⟨k - 1, by omega⟩
    simp only [hoodwinkref01_Same.l0]
    rw [if_neg (by omega), List.drop_of_length_le (by omega), List.drop_of_length_le (by omega)]
    simp
  | d + 1, k, i, hi, hk => by
    obtain ⟨k, rfl⟩ : ∃ q, k = q + 1 := ⟨k - 1, by omega⟩
    have ih := same_l0 x y hl hx d k (i + 1) (by omega) (by omega)
    have hix : i < x.length := by omega
    have hiy : i < y.length := by omega
    simp only [hoodwinkref01_Same.l0]
    rw [if_pos (by omega), if_pos (by omega), if_pos (by omega), if_pos (by omega), next64 (by omega), rd_getElem hix, rd_getElem hiy]
    have e : decide (x.drop i = y.drop i) = decide (x[i] = y[i] ∧ x.drop (i + 1) = y.drop (i + 1)) :=
      decide_eq_decide.2 (by rw [List.drop_eq_getElem_cons hix, List.drop_eq_getElem_cons hiy, List.cons.injEq])
    rw [e]
    by_cases h : x[i] = y[i]
    · rw [if_pos h, ih]; exact congrArg some (decide_eq_decide.2 ⟨fun q => ⟨h, q⟩, fun q => q.2⟩)
    · rw [if_neg h, decide_eq_false (fun q => h q.1)]
theorem same_f (x y : List Int) (hx : x.length ≤ 9223372036854775807) : hoodwinkref01_Same.f (x.length + 1) x y = some (decide (x = y)) := by
  unfold hoodwinkref01_Same.f
  by_cases h : x.length = y.length
  · rw [if_pos (by omega)]
    have := same_l0 x y h hx x.length (x.length + 1) 0 (by omega) (by omega)
    simpa using this
  · rw [if_neg (by omega)]
    have : x ≠ y := fun e => h (by rw [e])
    simp [this]
theorem same_any (A B : Option Addr) (n m c c' : Nat) (x y : List Int) (w : World) (hx : (Kd.int .u8).C w A n x) (hc : n ≤ c) (hy : (Kd.int .u8).C w B m y) (hc' : m ≤ c') :
    Calls Try.prog 12 #[.slice A n c, .slice B m c'] w fun e w' => e = .returned (.bool (decide (x = y))) ∧ Below w.heap.size w w' := by
  have hm := hx.2.1
  obtain rfl := hx.1
  obtain rfl := hy.1
  exact (hoodwinkref01_Same.calls (x.length + 1) A c x B c' y _ w hx hc hy hc' (same_f x y hm)).mono fun e w' ⟨h1, h2⟩ => ⟨h1, h2.below⟩

/-- Bytes that are told. -/
def BvC (w : World) (l : List Int) (v : Value) : Prop := ∃ A c, v = .slice A l.length c ∧ l.length ≤ c ∧ (Kd.int .u8).C w A l.length l
theorem BvC.below {w w' : World} {l : List Int} {v : Value} (h : BvC w l v) (hb : Below w.heap.size w w') : BvC w' l v := by
  obtain ⟨A, c, h1, h2, h3⟩ := h
  exact ⟨A, c, h1, h2, Kd.C_below h3 hb⟩
theorem BvC.of_R {w : World} {b : Nat} {ok : Nat → Prop} {l : List Int} {v : Value} (h : (Kd.int .u8).R 5 w b ok v l) : BvC w l v := by
  obtain ⟨A, c, h1, h2, h3⟩ := Kd.R_reads h
  exact ⟨A, c, h1, h2, h3⟩
/-- A delta that is told. -/
def DvC (w : World) (tk hs : Int) (P : List Int) (C : List S30) (v : Value) : Prop :=
  ∃ A c A2 c2, v = .agg #[.int .u32 tk, .int .u32 hs, .slice A P.length c, .slice A2 C.length c2] ∧ P.length ≤ c ∧ C.length ≤ c2 ∧ (Kd.int .u8).C w A P.length P ∧ k30.C w A2 C.length C
theorem DvC.below {w w' : World} {tk hs : Int} {P : List Int} {C : List S30} {v : Value} (h : DvC w tk hs P C v) (hb : Below w.heap.size w w') : DvC w' tk hs P C v := by
  obtain ⟨A, c, A2, c2, h1, h2, h3, h4, h5⟩ := h
  exact ⟨A, c, A2, c2, h1, h2, h3, Kd.C_below h4 hb, Kd.C_below h5 hb⟩
theorem of_told (f : Nat → S30) (n t : Nat) (o tk : Int) (w : World) (hn : n ≤ 48) (ht : t < 18446744073709551616) (hf : ∀ k, k < n → U32 (f k).f1) :
    Calls Try.prog 13 #[.agg (boardC f n), .int .u64 t, .int .i64 o, .int .u32 tk] w fun e w' => ∃ v, e = .returned v ∧ DvC w' tk (sumB true (listF (viewF f n o) n)) (plL t n) (clL (viewF f n o) t n) v ∧ Below w.heap.size w w' :=
  (of_full f n t o tk w hn ht hf).mono fun e w' ⟨v, h1, h2, h3⟩ => ⟨v, h1, h2.cells, h3⟩
theorem full_told (f : Nat → S30) (n : Nat) (o tk : Int) (w : World) (hn : n ≤ 48) (hf : ∀ k, k < n → U32 (f k).f1) :
    Calls Try.prog 15 #[.agg (boardC f n), .int .i64 o, .int .u32 tk] w fun e w' => ∃ v, e = .returned v ∧ DvC w' tk (sumB true (listF (viewF f n o) n)) (plL allT n) (clL (viewF f n o) allT n) v ∧ Below w.heap.size w w' :=
  (full_any f n o tk w hn hf).mono fun e w' ⟨v, h1, h2, h3⟩ => ⟨v, h1, h2.cells, h3⟩
theorem risB_of : ∀ (l : List Int) (a : Int), l.Pairwise (· < ·) → (∀ x ∈ l, a < x ∧ x < 48) → risB a l = true
  | [], a, _, _ => rfl
  | x :: l, a, hp, h => by
    rw [List.pairwise_cons] at hp
    have hx := h x List.mem_cons_self
    rw [risB_cons, decide_eq_true hx.1, decide_eq_true hx.2, risB_of l x hp.2 (fun y hy => ⟨hp.1 y hy, (h y (List.mem_cons_of_mem _ hy)).2⟩)]; rfl
theorem right_of (f : Nat → S30) (t n : Nat) (hn : n ≤ 48) : rightB (plL t n) (clL f t n).length = true := by
  unfold rightB
  have h1 : (plL t n).length = (clL f t n).length := by unfold plL clL; rw [List.length_map, List.length_map]
  rw [risB_of, h1]
  · simp
  · unfold plL
    rw [List.pairwise_map]
    have : (touchL t n).Pairwise (· < ·) := List.Pairwise.filter _ List.pairwise_lt_range
    exact this.imp (fun h => by omega)
  · intro x hx
    unfold plL touchL at hx
    obtain ⟨k, hk, rfl⟩ := List.mem_map.1 hx
    have := List.mem_range.1 (List.mem_filter.1 hk).1
    omega
theorem touchL_mem {t n k : Nat} (h : k ∈ touchL t n) : k < n := List.mem_range.1 (List.mem_filter.1 h).1
theorem clL_congr {f h : Nat → S30} {t n : Nat} (e : ∀ i, i < n → f i = h i) : clL f t n = clL h t n := List.map_congr_left fun i hi => e i (touchL_mem hi)
theorem bytes_told (tk hs : Nat) (P : List Int) (C : List S30) (v : Value) (w : World) (hv : DvC w tk hs P C v) (hr : rightB P C.length = true) (htk : tk < 4294967296) (hhs : hs < 4294967296) (hU : ∀ x ∈ C, U32 x.f1) :
    Calls Try.prog 14 #[v] w fun e w' => ∃ v', e = .returned v' ∧ BvC w' (dBytes tk hs P C) v' ∧ Below w.heap.size w w' := by
  obtain ⟨A, c, A2, c2, rfl, h2, h3, h4, h5⟩ := hv
  exact (dbytes_yes tk hs A A2 _ c _ c2 P C w h4 h2 h5 h3 hr htk hhs hU).mono fun e w' ⟨v', k1, k2, k3⟩ => ⟨v', k1, BvC.of_R k2, k3⟩
theorem same_told (a b : List Int) (x y : Value) (w : World) (hx : BvC w a x) (hy : BvC w b y) :
    Calls Try.prog 12 #[x, y] w fun e w' => e = .returned (.bool (decide (a = b))) ∧ Below w.heap.size w w' := by
  obtain ⟨A, c, rfl, h1, h2⟩ := hx
  obtain ⟨A2, c2, rfl, h3, h4⟩ := hy
  exact same_any A A2 _ _ c c2 a b w h2 h1 h4 h3
end Go.Proofs.Ytkhlalpkkmjfnaa

namespace Go.Proofs.Ytkhlalpkkmjfnaa
open Go.RowKit Go.Proofs.YtkhlalpkkmjfnaaW.PrintWords Go.Proofs.YtkhlalpkkmjfnaaW.PrintLast Go.Proofs.YtkhlalpkkmjfnaaW.PrintMore
set_option linter.unusedVariables false
set_option linter.unusedSimpArgs false

/-- The first i of some cells, put at their places. -/
def putsF (f : Nat → S30) (P : List Int) (C : List S30) : Nat → Nat → S30
  | 0 => f
  | i + 1 => putF (putsF f P C i) (P.getD i 0).toNat (C.getD i z30)
theorem putsF_succ (f : Nat → S30) {P : List Int} {C : List S30} {i j : Nat} (hp : i < P.length) (hc : i < C.length) (hj : P[i] = (j : Int)) : putsF f P C (i + 1) = putF (putsF f P C i) j C[i] := by
  show putF _ _ _ = _
  rw [List.getD_eq_getElem?_getD, List.getElem?_eq_getElem hp, List.getD_eq_getElem?_getD, List.getElem?_eq_getElem hc]
  simp [hj]
theorem putsF_u32 {f : Nat → S30} {P : List Int} {C : List S30} {n : Nat} (hf : ∀ k, k < n → U32 (f k).f1) (hC : ∀ x ∈ C, U32 x.f1) : ∀ i, i ≤ C.length → ∀ k, k < n → U32 (putsF f P C i k).f1
  | 0, _, k, hk => hf k hk
  | i + 1, hi, k, hk => by
    show U32 (putF _ _ _ k).f1
    unfold putF
    split
    · rw [List.getD_eq_getElem?_getD, List.getElem?_eq_getElem (by omega)]
      exact hC _ (List.getElem_mem _)
    · exact putsF_u32 hf hC i (by omega) k hk

set_option maxRecDepth 100000 in
set_option maxHeartbeats 8000000 in
theorem apply_any (f : Nat → S30) (n : Nat) (tk hs : Int) (P : List Int) (C : List S30) (v : Value) (β : Bool) (w00 : World) (hv : DvC w00 tk hs P C v) (hn : n ≤ 48) (hl : P.length = C.length) (hm : P.length ≤ 48) (hP : ∀ x ∈ P, 0 ≤ x ∧ x < n) (hf : ∀ k, k < n → U32 (f k).f1) (hC : ∀ x ∈ C, U32 x.f1)
    (hβ : (((sumB true (listF (putsF f P C P.length) n) : Nat) : Int) == hs) = β) :
    Calls Try.prog 19 #[v, .agg (boardC f n)] w00 fun e w' => e = .returned (if β = true then .tuple #[.agg (boardC (putsF f P C P.length) n), .int .i64 0] else .tuple #[.agg (boardC f n), .int .i64 13]) ∧ Below w00.heap.size w00 w' := by
  obtain ⟨A, c, A2, c2, rfl, h2, h3, h4, h5⟩ := hv
  have hz := zero_board
  have HI := fun f m => Aside0.mk (board_info f m)
  have HO := fun f m => Aside0.mk (boardC_one f m)
  have HN := Aside0.mk hn
  have HR := Aside0.mk hP
  have HF : Aside0 (∀ z, Below w00.heap.size w00 z → (Kd.int .u8).C z A P.length P ∧ k30.C z A2 C.length C) := ⟨fun z hb => ⟨Kd.C_below h4 hb, Kd.C_below h5 hb⟩⟩
  have HUU := Aside0.mk (putsF_u32 (P := P) hf hC P.length (by omega))
  have H0 := Aside0.mk (((((Hp.start w00).alloc (.cells #[.int .u32 tk, .int .u32 hs, .slice A P.length c, .slice A2 C.length c2] 41)).allocAt (.cells (boardC f n) 34) (w00.heap.size + 1) (by simp)).allocAt (.cells (boardC (fun _ => z30) 0) 34) (w00.heap.size + 1 + 1) (by simp)))
  obtain ⟨F, hF⟩ : ∃ F, putsF f P C P.length = F := ⟨_, rfl⟩
  rw [hF] at hβ HUU
  rw [hF]
  have HFF := Aside0.mk hF
  obtain ⟨p, hp⟩ : ∃ p, P.length = p := ⟨_, rfl⟩
  have hcl : C.length = p := by omega
  rw [hp, hcl] at H0 HF
  rw [hp] at HFF hm
  rw [hp, hcl]
  have HPC := Aside0.mk (And.intro hp hcl)
  have HB := Aside0.mk hβ
  obtain ⟨hq, hH⟩ : ∃ hq, sumB true (listF F n) = hq := ⟨_, rfl⟩
  have KH := fun X : World => Aside0.mk (hash_any F n X HN.out HUU.out)
  rw [hH] at HB KH
  clear hn hl hP hf hC hβ h2 h3 h4 h5 hF hp hcl hH HUU
  go_enter Try.func19, Try.ntmps19
  go_upto_region 1 with fail
  generalize ((w00.alloc (.cells #[.int .u32 tk, .int .u32 hs, .slice A p c, .slice A2 p c2] 41)).alloc (.cells (boardC f n) 34)).alloc (.cells (boardC (fun _ => z30) 0) 34) = W at *
  obtain ⟨gd, hgd⟩ : ∃ gd, w00.heap.size = gd := ⟨_, rfl⟩
  rw [hgd] at H0 HF
  rw [hgd]
  have HGD := Aside0.mk hgd
  clear hgd
  have HZ := Aside0.mk (blk_new W (.cells (boardC (fun _ => z30) 0) 34))
  have H1 := Aside0.mk ((H0.out.alloc (.cells (boardC (fun _ => z30) 0) 34)).setRow (i := 0) rfl (boardC f n))
  have c2 := blk_cell (H1.out.get (i := 3) rfl) 2
  go_wp2_with (first | (refine wpList_load_row_g 34 (.tmp 3) rfl (gd + 1) rfl rfl 34 _ (0, 0) _ (H0.out.get (i := 1) rfl) Try.underlying34 rfl (HI _ _).out ?_) | (refine wpList_store_row rfl 34 (.tmp 6) (.tmp 10) rfl (W.heap.size) (boardC f n) rfl rfl 34 _ HZ.out (HI _ _).out (by rw [boardC_size, boardC_size]) (HO _ _).out ?_))
  clear c2 HZ H0
  generalize (W.alloc (.cells (boardC (fun _ => z30) 0) 34)).setRow W.heap.size (boardC f n) = W1 at *
  generalize W.heap.size = go at *
  go_loopw [14] (fun v14 wr => ∃ i : Nat, i ≤ p ∧ v14 = .int .i64 i ∧ Aside0 (Hp gd w00 wr [(go, .cells (boardC (putsF f P C i) n) 34 (0, 0)), (gd + 1 + 1, .cells (boardC (fun _ => z30) 0) 34 (0, 0)), (gd + 1, .cells (boardC f n) 34 (0, 0)), (gd, .cells #[.int .u32 tk, .int .u32 hs, .slice A p c, .slice A2 p c2] 41 (0, 0))] [])) (fun v14 _ => p - (intOf v14).toNat)
  case atStart => exact ⟨0, by omega, rfl, ⟨H1.out⟩⟩
  case round =>
    clear H1
    obtain ⟨i, hi, rfl, H⟩ := hrel
    by_cases hlt : i < p
    · have d1 : decide (i < p) = true := decide_eq_true hlt
      have d2 : decide (p ≤ i) = false := decide_eq_false (by omega)
      have hi0 : (0 : Int) ≤ i := by omega
      have him : (i : Int) < p := by omega
      have him2 : ¬ (p : Int) ≤ i := by omega
      have hiP : i < P.length := by rw [HPC.out.1]; exact hlt
      have hiC : i < C.length := by rw [HPC.out.2]; exact hlt
      obtain ⟨f1, f2⟩ := HF.out wr H.out.bel
      obtain ⟨adp, hA, p0⟩ := int_at f1 i hiP
      obtain ⟨adc, hA2, q0, q1⟩ := cell_at25 f2 hiC
      have HQ0 : Aside0 (∀ z, Below gd w00 z → ∃ ad, A2 = some ad ∧ z.cell? (ad.add (i * 2)) = some (.int .i32 C[i].f0) ∧ z.cell? ⟨(ad.add (i * 2)).block, (ad.add (i * 2)).off + 1, none⟩ = some (.int .u32 C[i].f1)) := ⟨fun z hz => cell_at25 (HF.out z hz).2 hiC⟩
      have HX := HR.out _ (List.getElem_mem hiP)
      obtain ⟨j, hj⟩ : ∃ j : Nat, P[i] = (j : Int) := ⟨P[i].toNat, by omega⟩
      have HST := Aside0.mk (putsF_succ f hiP hiC hj)
      rw [hj] at p0 HX
      obtain ⟨x, hx⟩ : ∃ x, C[i] = x := ⟨_, rfl⟩
      rw [hx] at HST HQ0
      subst hA hA2
      have HQ : Aside0 (∀ z, Below gd w00 z → z.cell? (adc.add (i * 2)) = some (.int .i32 x.f0) ∧ z.cell? ⟨(adc.add (i * 2)).block, (adc.add (i * 2)).off + 1, none⟩ = some (.int .u32 x.f1)) := ⟨fun z hz => by obtain ⟨ad, e, h⟩ := HQ0.out z hz; rw [Option.some.inj e]; exact h⟩
      have HJ : Aside0 (j < n) := ⟨by omega⟩
      have c2 := blk_cell (H.out.get (i := 3) rfl) 2
      have c3 := blk_cell (H.out.get (i := 3) rfl) 3
      have HJB : Aside0 (IntKind.i64.wrap (j : Int) = (j : Int)) := ⟨by have := HN.out; exact IntWalk.i64_in _ (by omega)⟩
      clear HX hj hx f1 f2 q0 q1 HQ0
      obtain ⟨G, hG⟩ : ∃ G, putsF f P C i = G := ⟨_, rfl⟩
      rw [hG] at H HST
      clear hG
      go_wp2_with fail
      clear c2 c3 p0
      refine regionS (W := wr)
        [fun _ v => v = .agg (boardC G n),
         fun _ v => v = .int .u8 j,
         fun _ v => v = .int .i64 j,
         fun _ v => v = .pointer (some ⟨gd, 3, none⟩),
         fun _ v => v = .slice (some adc) p c2,
         fun _ v => v = .int .i64 i,
         fun _ v => v = .pointer (some (adc.add (i * 2))),
         fun _ v => v = .agg #[.int .i32 x.f0, .int .u32 x.f1],
         fun _ v => v = .tuple #[.agg (boardC (putF G j x) n), .int .i64 0],
         fun _ v => v = .tuple #[.agg (boardC (putF G j x) n), .int .i64 0],
         fun _ v => v = .agg (boardC (putF G j x) n),
         fun _ v => v = .int .i64 0,
         fun _ _ => True,
         fun _ v => v = .int .i64 0]
        [8, 9, 10, 12]
        (fun t => match t with | 0 => fun (rs : List Value) (w : World) => Hp gd w00 w [(go, .cells (boardC (G) n) 34 (0, 0)), (gd + 1 + 1, .cells (boardC (fun _ => z30) 0) 34 (0, 0)), (gd + 1, .cells (boardC f n) 34 (0, 0)), (gd, .cells #[.int .u32 tk, .int .u32 hs, .slice (some adp) p c, .slice (some adc) p c2] 41 (0, 0))] [] | 1 => fun (rs : List Value) (w : World) => Hp gd w00 w [(go, .cells (boardC (G) n) 34 (0, 0)), (gd + 1 + 1, .cells (boardC (fun _ => z30) 0) 34 (0, 0)), (gd + 1, .cells (boardC f n) 34 (0, 0)), (gd, .cells #[.int .u32 tk, .int .u32 hs, .slice (some adp) p c, .slice (some adc) p c2] 41 (0, 0))] [] | 2 => fun (rs : List Value) (w : World) => Hp gd w00 w [(go, .cells (boardC (G) n) 34 (0, 0)), (gd + 1 + 1, .cells (boardC (fun _ => z30) 0) 34 (0, 0)), (gd + 1, .cells (boardC f n) 34 (0, 0)), (gd, .cells #[.int .u32 tk, .int .u32 hs, .slice (some adp) p c, .slice (some adc) p c2] 41 (0, 0))] [] | 3 => fun (rs : List Value) (w : World) => Hp gd w00 w [(go, .cells (boardC (G) n) 34 (0, 0)), (gd + 1 + 1, .cells (boardC (fun _ => z30) 0) 34 (0, 0)), (gd + 1, .cells (boardC f n) 34 (0, 0)), (gd, .cells #[.int .u32 tk, .int .u32 hs, .slice (some adp) p c, .slice (some adc) p c2] 41 (0, 0))] [] | 4 => fun (rs : List Value) (w : World) => Hp gd w00 w [(go, .cells (boardC (putF G j x) n) 34 (0, 0)), (gd + 1 + 1, .cells (boardC (fun _ => z30) 0) 34 (0, 0)), (gd + 1, .cells (boardC f n) 34 (0, 0)), (gd, .cells #[.int .u32 tk, .int .u32 hs, .slice (some adp) p c, .slice (some adc) p c2] 41 (0, 0))] [] | _ => fun _ _ => False)
        (fun _ _ _ => True) (fun w => Below gd w00 w ∧ gd ≤ w.heap.size ∧ w.heap[gd]? = some (.cells #[.int .u32 tk, .int .u32 hs, .slice (some adp) p c, .slice (some adc) p c2] 41 (0, 0)))
        (fun j =>  none)
        [(0, some 25), (1, some 26), (2, some 27), (3, some 28), (4, some 29), (5, some 30), (6, some 31), (7, some 32), (8, some 33), (9, some 24), (10, some 34), (11, some 35), (12, none), (13, some 9)]
        []
        (by kernel_rfl) (by kernel_rfl) (by kernel_rfl) (by kernel_rfl) (by kernel_rfl) ?z7_1c ?z7_1i ?z7_1b ?z7_1d ?z7_1g ⟨?z7_1t0, ?z7_1t1, ?z7_1t2, ?z7_1t3, ?z7_1t4, ?z7_1t5, ?z7_1t6, ?z7_1t7, ?z7_1t8, ?z7_1t9, ?z7_1t10, ?z7_1t11, ?z7_1t12, ?z7_1t13, trivial⟩ ⟨?z7_1o0, ?z7_1o1, ?z7_1o2, ?z7_1o3, ?z7_1o4, ?z7_1o5, ?z7_1o6, ?z7_1o7, ?z7_1o8, ?z7_1o9, ?z7_1o10, ?z7_1o11, ?z7_1o12, ?z7_1o13, trivial⟩ ?z7_1e
      case z7_1c => exact ⟨H.out.drew.bel, H.out.drew.le, H.out.drew.get (i := 3) rfl⟩
      case z7_1i => exact H.out.drew
      case z7_1b => intro w w' hb h; exact ⟨h.1.trans (hb.mono h.2.1), Nat.le_trans h.2.1 hb.size, blk_below h.2.2 hb⟩
      case z7_1d =>
        intro t rs w w' hb h
        match t, h with
        | 0, h => (replace h : Hp gd w00 w [(go, .cells (boardC (G) n) 34 (0, 0)), (gd + 1 + 1, .cells (boardC (fun _ => z30) 0) 34 (0, 0)), (gd + 1, .cells (boardC f n) 34 (0, 0)), (gd, .cells #[.int .u32 tk, .int .u32 hs, .slice (some adp) p c, .slice (some adc) p c2] 41 (0, 0))] [] := h); show Hp gd w00 w' [(go, .cells (boardC (G) n) 34 (0, 0)), (gd + 1 + 1, .cells (boardC (fun _ => z30) 0) 34 (0, 0)), (gd + 1, .cells (boardC f n) 34 (0, 0)), (gd, .cells #[.int .u32 tk, .int .u32 hs, .slice (some adp) p c, .slice (some adc) p c2] 41 (0, 0))] []; exact h.call hb
        | 1, h => (replace h : Hp gd w00 w [(go, .cells (boardC (G) n) 34 (0, 0)), (gd + 1 + 1, .cells (boardC (fun _ => z30) 0) 34 (0, 0)), (gd + 1, .cells (boardC f n) 34 (0, 0)), (gd, .cells #[.int .u32 tk, .int .u32 hs, .slice (some adp) p c, .slice (some adc) p c2] 41 (0, 0))] [] := h); show Hp gd w00 w' [(go, .cells (boardC (G) n) 34 (0, 0)), (gd + 1 + 1, .cells (boardC (fun _ => z30) 0) 34 (0, 0)), (gd + 1, .cells (boardC f n) 34 (0, 0)), (gd, .cells #[.int .u32 tk, .int .u32 hs, .slice (some adp) p c, .slice (some adc) p c2] 41 (0, 0))] []; exact h.call hb
        | 2, h => (replace h : Hp gd w00 w [(go, .cells (boardC (G) n) 34 (0, 0)), (gd + 1 + 1, .cells (boardC (fun _ => z30) 0) 34 (0, 0)), (gd + 1, .cells (boardC f n) 34 (0, 0)), (gd, .cells #[.int .u32 tk, .int .u32 hs, .slice (some adp) p c, .slice (some adc) p c2] 41 (0, 0))] [] := h); show Hp gd w00 w' [(go, .cells (boardC (G) n) 34 (0, 0)), (gd + 1 + 1, .cells (boardC (fun _ => z30) 0) 34 (0, 0)), (gd + 1, .cells (boardC f n) 34 (0, 0)), (gd, .cells #[.int .u32 tk, .int .u32 hs, .slice (some adp) p c, .slice (some adc) p c2] 41 (0, 0))] []; exact h.call hb
        | 3, h => (replace h : Hp gd w00 w [(go, .cells (boardC (G) n) 34 (0, 0)), (gd + 1 + 1, .cells (boardC (fun _ => z30) 0) 34 (0, 0)), (gd + 1, .cells (boardC f n) 34 (0, 0)), (gd, .cells #[.int .u32 tk, .int .u32 hs, .slice (some adp) p c, .slice (some adc) p c2] 41 (0, 0))] [] := h); show Hp gd w00 w' [(go, .cells (boardC (G) n) 34 (0, 0)), (gd + 1 + 1, .cells (boardC (fun _ => z30) 0) 34 (0, 0)), (gd + 1, .cells (boardC f n) 34 (0, 0)), (gd, .cells #[.int .u32 tk, .int .u32 hs, .slice (some adp) p c, .slice (some adc) p c2] 41 (0, 0))] []; exact h.call hb
        | 4, h => (replace h : Hp gd w00 w [(go, .cells (boardC (putF G j x) n) 34 (0, 0)), (gd + 1 + 1, .cells (boardC (fun _ => z30) 0) 34 (0, 0)), (gd + 1, .cells (boardC f n) 34 (0, 0)), (gd, .cells #[.int .u32 tk, .int .u32 hs, .slice (some adp) p c, .slice (some adc) p c2] 41 (0, 0))] [] := h); show Hp gd w00 w' [(go, .cells (boardC (putF G j x) n) 34 (0, 0)), (gd + 1 + 1, .cells (boardC (fun _ => z30) 0) 34 (0, 0)), (gd + 1, .cells (boardC f n) 34 (0, 0)), (gd, .cells #[.int .u32 tk, .int .u32 hs, .slice (some adp) p c, .slice (some adc) p c2] 41 (0, 0))] []; exact h.call hb
        | _ + 5, h => exact h.elim
      case z7_1g =>
        intro j hj; cases hj
      case z7_1t0 => exact StabS.const _ _ _ _
      case z7_1t1 => exact StabS.const _ _ _ _
      case z7_1t2 => exact StabS.const _ _ _ _
      case z7_1t3 => exact StabS.const _ _ _ _
      case z7_1t4 => exact StabS.const _ _ _ _
      case z7_1t5 => exact StabS.const _ _ _ _
      case z7_1t6 => exact StabS.const _ _ _ _
      case z7_1t7 => exact StabS.const _ _ _ _
      case z7_1t8 => exact StabS.const _ _ _ _
      case z7_1t9 => exact StabS.const _ _ _ _
      case z7_1t10 => exact StabS.const _ _ _ _
      case z7_1t11 => exact StabS.const _ _ _ _
      case z7_1t12 => exact StabS.const _ _ _ _
      case z7_1t13 => exact StabS.const _ _ _ _
      case z7_1o0 =>
        intro vs w t hC ht1 ht2 hS hV
        have ht0 : t ≤ 0 := by
          rcases Nat.lt_or_ge 0 t with hq | hq
          · exact absurd (ht1 0 8 _ hq rfl rfl) (by decide +kernel)
          · exact hq
        obtain rfl : t = 0 := by omega
        replace hS : Hp gd w00 w [(go, .cells (boardC (G) n) 34 (0, 0)), (gd + 1 + 1, .cells (boardC (fun _ => z30) 0) 34 (0, 0)), (gd + 1, .cells (boardC f n) 34 (0, 0)), (gd, .cells #[.int .u32 tk, .int .u32 hs, .slice (some adp) p c, .slice (some adc) p c2] 41 (0, 0))] [] := hS
        rw [if_pos (by kernel_rfl)]
        generalize hρ : rho _ _ _ vs = ρ
        have e6 : ρ (.tmp 6) = .pointer (some ⟨go, 0, none⟩) := by rw [← hρ]; kernel_rfl
        clear hρ hV
        exact runs_load 34 (.tmp 6) rfl go e6 34 (boardC G n) (0, 0) _ (hS.get (i := 0) rfl) Try.underlying34 rfl (HI _ _).out ⟨Below.refl _ _, rfl⟩
      case z7_1o1 =>
        intro vs w t hC ht1 ht2 hS hV
        rw [if_pos (by kernel_rfl)]
        generalize hρ : rho _ _ _ vs = ρ
        have e8 : ρ (.tmp 8) = .int .u8 j := by rw [← hρ]; kernel_rfl
        clear hρ hV
        refine runs_val (v := .int .u8 j) (w' := w) ?_ ⟨Below.refl _ _, rfl⟩
        clear ht1 ht2 hS hC
        go_simp <;> (first | exact IntWalk.u64_in _ (by omega) | exact IntWalk.u32_in _ (by omega) | exact IntWalk.u16_in _ (by omega) | exact IntWalk.u8_in _ (by omega) | exact IntWalk.i64_in _ (by omega) | skip)
      case z7_1o2 =>
        intro vs w t hC ht1 ht2 hS hV
        rw [if_pos (by kernel_rfl)]
        generalize hρ : rho _ _ _ vs = ρ
        have d26 : (vs 1) = .int .u8 j := hV 1 (by kernel_rfl)
        have e26 : ρ (.tmp 26) = vs 1 := by rw [← hρ]; kernel_rfl
        rw [d26] at e26; clear d26
        clear hρ hV
        have ix := HJB.out
        refine runs_val (v := .int .i64 j) (w' := w) ?_ ⟨Below.refl _ _, rfl⟩
        clear ht1 ht2 hS hC
        go_simp
      case z7_1o3 =>
        intro vs w t hC ht1 ht2 hS hV
        rw [if_pos (by kernel_rfl)]
        generalize hρ : rho _ _ _ vs = ρ
        have e2 : ρ (.tmp 2) = .pointer (some ⟨gd, 0, none⟩) := by rw [← hρ]; kernel_rfl
        clear hρ hV
        refine runs_val (v := .pointer (some ⟨gd, 3, none⟩)) (w' := w) ?_ ⟨Below.refl _ _, rfl⟩
        clear ht1 ht2 hS hC
        go_simp <;> (first | exact IntWalk.u64_in _ (by omega) | exact IntWalk.u32_in _ (by omega) | exact IntWalk.u16_in _ (by omega) | exact IntWalk.u8_in _ (by omega) | exact IntWalk.i64_in _ (by omega) | skip)
      case z7_1o4 =>
        intro vs w t hC ht1 ht2 hS hV
        rw [if_pos (by kernel_rfl)]
        generalize hρ : rho _ _ _ vs = ρ
        have d28 : (vs 3) = .pointer (some ⟨gd, 3, none⟩) := hV 3 (by kernel_rfl)
        have e28 : ρ (.tmp 28) = vs 3 := by rw [← hρ]; kernel_rfl
        rw [d28] at e28; clear d28
        clear hρ hV
        have c0 := blk_cell hC.2.2 3
        refine runs_val (v := .slice (some adc) p c2) (w' := w) ?_ ⟨Below.refl _ _, rfl⟩
        clear ht1 ht2 hS hC
        go_simp
      case z7_1o5 =>
        intro vs w t hC ht1 ht2 hS hV
        rw [if_pos (by kernel_rfl)]
        generalize hρ : rho _ _ _ vs = ρ
        have e7 : ρ (.tmp 7) = .int .i64 i := by rw [← hρ]; kernel_rfl
        clear hρ hV
        refine runs_val (v := .int .i64 i) (w' := w) ?_ ⟨Below.refl _ _, rfl⟩
        clear ht1 ht2 hS hC
        go_simp <;> (first | exact IntWalk.u64_in _ (by omega) | exact IntWalk.u32_in _ (by omega) | exact IntWalk.u16_in _ (by omega) | exact IntWalk.u8_in _ (by omega) | exact IntWalk.i64_in _ (by omega) | skip)
      case z7_1o6 =>
        intro vs w t hC ht1 ht2 hS hV
        rw [if_pos (by kernel_rfl)]
        generalize hρ : rho _ _ _ vs = ρ
        have d29 : (vs 4) = .slice (some adc) p c2 := hV 4 (by kernel_rfl)
        have e29 : ρ (.tmp 29) = vs 4 := by rw [← hρ]; kernel_rfl
        rw [d29] at e29; clear d29
        have d30 : (vs 5) = .int .i64 i := hV 5 (by kernel_rfl)
        have e30 : ρ (.tmp 30) = vs 5 := by rw [← hρ]; kernel_rfl
        rw [d30] at e30; clear d30
        clear hρ hV
        refine runs_val (v := .pointer (some (adc.add (i * 2)))) (w' := w) ?_ ⟨Below.refl _ _, rfl⟩
        clear ht1 ht2 hS hC
        go_simp <;> (first | exact IntWalk.u64_in _ (by omega) | exact IntWalk.u32_in _ (by omega) | exact IntWalk.u16_in _ (by omega) | exact IntWalk.u8_in _ (by omega) | exact IntWalk.i64_in _ (by omega) | skip)
      case z7_1o7 =>
        intro vs w t hC ht1 ht2 hS hV
        rw [if_pos (by kernel_rfl)]
        generalize hρ : rho _ _ _ vs = ρ
        have d31 : (vs 6) = .pointer (some (adc.add (i * 2))) := hV 6 (by kernel_rfl)
        have e31 : ρ (.tmp 31) = vs 6 := by rw [← hρ]; kernel_rfl
        rw [d31] at e31; clear d31
        clear hρ hV
        obtain ⟨q0, q1⟩ := HQ.out w hC.1
        refine runs_val (v := .agg #[.int .i32 x.f0, .int .u32 x.f1]) (w' := w) ?_ ⟨Below.refl _ _, rfl⟩
        clear ht1 ht2 hS hC
        go_simp
      case z7_1o8 =>
        intro vs w hC hS hV
        replace hS : Hp gd w00 w [(go, .cells (boardC (G) n) 34 (0, 0)), (gd + 1 + 1, .cells (boardC (fun _ => z30) 0) 34 (0, 0)), (gd + 1, .cells (boardC f n) 34 (0, 0)), (gd, .cells #[.int .u32 tk, .int .u32 hs, .slice (some adp) p c, .slice (some adc) p c2] 41 (0, 0))] [] := hS
        rw [if_pos (by kernel_rfl)]
        generalize hρ : rho _ _ _ vs = ρ
        have d25 : (vs 0) = .agg (boardC G n) := hV 0 (by kernel_rfl)
        have e25 : ρ (.tmp 25) = vs 0 := by rw [← hρ]; kernel_rfl
        rw [d25] at e25; clear d25
        have d27 : (vs 2) = .int .i64 j := hV 2 (by kernel_rfl)
        have e27 : ρ (.tmp 27) = vs 2 := by rw [← hρ]; kernel_rfl
        rw [d27] at e27; clear d27
        have d32 : (vs 7) = .agg #[.int .i32 x.f0, .int .u32 x.f1] := hV 7 (by kernel_rfl)
        have e32 : ρ (.tmp 32) = vs 7 := by rw [← hρ]; kernel_rfl
        rw [d32] at e32; clear d32
        have ef18 : ρ (.func 18) = .func (.func 18) #[] #[] := by rw [← hρ]; rfl
        clear hρ hV
        refine runs_call (f := 18) (args := #[.agg (boardC G n), .int .i64 j, .agg #[.int .i32 x.f0, .int .u32 x.f1]]) (w' := w) ?_ ?_
        · go_simp
        · refine (put_any G n j x _ HJ.out HN.out).mono ?_
          rintro e w5 ⟨rfl, hb5⟩
          exact ⟨_, rfl, ⟨hC.1.trans (hb5.mono hC.2.1), Nat.le_trans hC.2.1 hb5.size, blk_below hC.2.2 hb5⟩, trivial, rfl, hS.call hb5⟩
      case z7_1o9 =>
        intro vs w hC hS hV
        replace hS : Hp gd w00 w [(go, .cells (boardC (G) n) 34 (0, 0)), (gd + 1 + 1, .cells (boardC (fun _ => z30) 0) 34 (0, 0)), (gd + 1, .cells (boardC f n) 34 (0, 0)), (gd, .cells #[.int .u32 tk, .int .u32 hs, .slice (some adp) p c, .slice (some adc) p c2] 41 (0, 0))] [] := hS
        rw [if_pos (by kernel_rfl)]
        generalize hρ : rho _ _ _ vs = ρ
        have d33 : (vs 8) = .tuple #[.agg (boardC (putF G j x) n), .int .i64 0] := hV 8 (by kernel_rfl)
        have e33 : ρ (.tmp 33) = vs 8 := by rw [← hρ]; kernel_rfl
        rw [d33] at e33; clear d33
        clear hρ hV
        refine runs_val (v := .tuple #[.agg (boardC (putF G j x) n), .int .i64 0]) (w' := w) ?_ ⟨hC, trivial, rfl, hS⟩
        go_simp
      case z7_1o10 =>
        intro vs w hC hS hV
        replace hS : Hp gd w00 w [(go, .cells (boardC (G) n) 34 (0, 0)), (gd + 1 + 1, .cells (boardC (fun _ => z30) 0) 34 (0, 0)), (gd + 1, .cells (boardC f n) 34 (0, 0)), (gd, .cells #[.int .u32 tk, .int .u32 hs, .slice (some adp) p c, .slice (some adc) p c2] 41 (0, 0))] [] := hS
        rw [if_pos (by kernel_rfl)]
        generalize hρ : rho _ _ _ vs = ρ
        have d24 : (vs 9) = .tuple #[.agg (boardC (putF G j x) n), .int .i64 0] := hV 9 (by kernel_rfl)
        have e24 : ρ (.tmp 24) = vs 9 := by rw [← hρ]; kernel_rfl
        rw [d24] at e24; clear d24
        clear hρ hV
        refine runs_val (v := .agg (boardC (putF G j x) n)) (w' := w) ?_ ⟨hC, trivial, rfl, hS⟩
        go_simp
      case z7_1o11 =>
        intro vs w t hC ht1 ht2 hS hV
        rw [if_pos (by kernel_rfl)]
        generalize hρ : rho _ _ _ vs = ρ
        have d24 : (vs 9) = .tuple #[.agg (boardC (putF G j x) n), .int .i64 0] := hV 9 (by kernel_rfl)
        have e24 : ρ (.tmp 24) = vs 9 := by rw [← hρ]; kernel_rfl
        rw [d24] at e24; clear d24
        clear hρ hV
        refine runs_val (v := .int .i64 0) (w' := w) ?_ ⟨Below.refl _ _, rfl⟩
        clear ht1 ht2 hS hC
        go_simp <;> (first | exact IntWalk.u64_in _ (by omega) | exact IntWalk.u32_in _ (by omega) | exact IntWalk.u16_in _ (by omega) | exact IntWalk.u8_in _ (by omega) | exact IntWalk.i64_in _ (by omega) | skip)
      case z7_1o12 =>
        intro vs w hC hS hV
        replace hS : Hp gd w00 w [(go, .cells (boardC (G) n) 34 (0, 0)), (gd + 1 + 1, .cells (boardC (fun _ => z30) 0) 34 (0, 0)), (gd + 1, .cells (boardC f n) 34 (0, 0)), (gd, .cells #[.int .u32 tk, .int .u32 hs, .slice (some adp) p c, .slice (some adc) p c2] 41 (0, 0))] [] := hS
        rw [if_pos (by kernel_rfl)]
        generalize hρ : rho _ _ _ vs = ρ
        have e6 : ρ (.tmp 6) = .pointer (some ⟨go, 0, none⟩) := by rw [← hρ]; kernel_rfl
        have d34 : (vs 10) = .agg (boardC (putF G j x) n) := hV 10 (by kernel_rfl)
        have e34 : ρ (.tmp 34) = vs 10 := by rw [← hρ]; kernel_rfl
        rw [d34] at e34; clear d34
        clear hρ hV
        have hS2 := hS.setRow (i := 0) rfl (boardC (putF G j x) n)
        exact runs_store_row 34 (.tmp 6) (.tmp 34) rfl go (boardC (putF G j x) n) e6 e34 34 (boardC G n) (hS.get (i := 0) rfl) (HI _ _).out (by rw [boardC_size, boardC_size]) (HO _ _).out ⟨⟨hS2.bel, hS2.le, hS2.get (i := 3) rfl⟩, trivial, trivial, hS2⟩
      case z7_1o13 =>
        intro vs w t hC ht1 ht2 hS hV
        rw [if_pos (by kernel_rfl)]
        generalize hρ : rho _ _ _ vs = ρ
        have d35 : (vs 11) = .int .i64 0 := hV 11 (by kernel_rfl)
        have e35 : ρ (.tmp 35) = vs 11 := by rw [← hρ]; kernel_rfl
        clear hρ hV
        refine runs_val (v := vs 11) (w' := w) ?_ ⟨Below.refl _ _, d35⟩
        go_simp
      case z7_1e =>
        intro vs z1 hC hS hV
        replace hS : (fun (w : World) => Hp gd w00 w [(go, .cells (boardC (putF G j x) n) 34 (0, 0)), (gd + 1 + 1, .cells (boardC (fun _ => z30) 0) 34 (0, 0)), (gd + 1, .cells (boardC f n) 34 (0, 0)), (gd, .cells #[.int .u32 tk, .int .u32 hs, .slice (some adp) p c, .slice (some adc) p c2] 41 (0, 0))] []) z1 := hS
        have d25 : (vs 0) = .agg (boardC G n) := hV 0 (Nat.le_of_ble_eq_true rfl)
        have d26 : (vs 1) = .int .u8 j := hV 1 (Nat.le_of_ble_eq_true rfl)
        have d27 : (vs 2) = .int .i64 j := hV 2 (Nat.le_of_ble_eq_true rfl)
        have d28 : (vs 3) = .pointer (some ⟨gd, 3, none⟩) := hV 3 (Nat.le_of_ble_eq_true rfl)
        have d29 : (vs 4) = .slice (some adc) p c2 := hV 4 (Nat.le_of_ble_eq_true rfl)
        have d30 : (vs 5) = .int .i64 i := hV 5 (Nat.le_of_ble_eq_true rfl)
        have d31 : (vs 6) = .pointer (some (adc.add (i * 2))) := hV 6 (Nat.le_of_ble_eq_true rfl)
        have d32 : (vs 7) = .agg #[.int .i32 x.f0, .int .u32 x.f1] := hV 7 (Nat.le_of_ble_eq_true rfl)
        have d33 : (vs 8) = .tuple #[.agg (boardC (putF G j x) n), .int .i64 0] := hV 8 (Nat.le_of_ble_eq_true rfl)
        have d24 : (vs 9) = .tuple #[.agg (boardC (putF G j x) n), .int .i64 0] := hV 9 (Nat.le_of_ble_eq_true rfl)
        have d34 : (vs 10) = .agg (boardC (putF G j x) n) := hV 10 (Nat.le_of_ble_eq_true rfl)
        have d35 : (vs 11) = .int .i64 0 := hV 11 (Nat.le_of_ble_eq_true rfl)
        have d9 : (vs 13) = .int .i64 0 := hV 13 (Nat.le_of_ble_eq_true rfl)
        clear hV
        simp only [putAll]
        rw [d25, d26, d27, d28, d29, d30, d31, d32, d33, d24, d34, d35, d9]
        clear d25 d26 d27 d28 d29 d30 d31 d32 d33 d24 d34 d35 d9
        generalize vs 12 = vN12
        clear vs
        simp only [Act.put, List.setIfInBounds_toArray, List.set_cons_zero, List.set_cons_succ]
        have H2 := Aside0.mk hS
        clear hS hC H
        go_wp2_with fail
        go_roundw
        case rel => exact ⟨i + 1, by omega, by go_num, ⟨by rw [HST.out]; exact H2.out⟩⟩
        case measure => simp [intOf]; omega
    · obtain rfl : i = p := by omega
      have d1 : decide (i < i) = false := decide_eq_false (by omega)
      rw [HFF.out] at H
      clear hlt hi
      go_wp2_with fail
      refine region_grown (W := wr)
        [fun (w : World) (v : Value) => v = .agg (boardC F n),
         fun (w : World) (v : Value) => v = .int .u32 hq,
         fun (w : World) (v : Value) => v = .pointer (some ⟨gd, 1, none⟩),
         fun (w : World) (v : Value) => v = .int .u32 hs,
         fun (w : World) (v : Value) => v = .bool (!β)]
        (fun j =>  none)
        [(0, some 41), (1, some 42), (2, some 43), (3, some 44), (4, some 45)]
        []
        (by kernel_rfl) (by kernel_rfl) (by kernel_rfl) (by kernel_rfl) ?r11_2g ?r11_2s ⟨?r11_2o0, ?r11_2o1, ?r11_2o2, ?r11_2o3, ?r11_2o4, trivial⟩ ?r11_2e
      case r11_2g =>
        intro j hj; cases hj
      case r11_2s =>
        refine ⟨(fun w w' v hb h => h), (fun w w' v hb h => h), (fun w w' v hb h => h), (fun w w' v hb h => h), (fun w w' v hb h => h), trivial⟩
      case r11_2o0 =>
        intro vs w hb hV
        rw [if_pos (by kernel_rfl)]
        generalize hρ : rho _ _ _ vs = ρ
        have e6 : ρ (.tmp 6) = .pointer (some ⟨go, 0, none⟩) := by rw [← hρ]; kernel_rfl
        clear hρ hV
        exact runs_load 34 (.tmp 6) rfl go e6 34 (boardC F n) (0, 0) _ (((hb.block go (blk_lt (H.out.get (i := 0) rfl))).trans (H.out.get (i := 0) rfl))) Try.underlying34 rfl (HI _ _).out ⟨Below.refl _ _, rfl⟩
      case r11_2o1 =>
        intro vs w hb hV
        rw [if_pos (by kernel_rfl)]
        generalize hρ : rho _ _ _ vs = ρ
        have d41 : (vs 0) = .agg (boardC F n) := hV 0 (by kernel_rfl)
        have e41 : ρ (.tmp 41) = vs 0 := by rw [← hρ]; kernel_rfl
        rw [d41] at e41; clear d41
        have ef35 : ρ (.func 35) = .func (.func 35) #[] #[] := by rw [← hρ]; rfl
        clear hρ hV
        refine runs_call (f := 35) (args := #[.agg (boardC F n)]) (w' := w) ?_ ?_
        · go_simp
        · refine (KH _).out.mono ?_
          rintro e w5 ⟨rfl, hb5⟩
          exact ⟨_, rfl, hb5, rfl⟩
      case r11_2o2 =>
        intro vs w hb hV
        rw [if_pos (by kernel_rfl)]
        generalize hρ : rho _ _ _ vs = ρ
        have e2 : ρ (.tmp 2) = .pointer (some ⟨gd, 0, none⟩) := by rw [← hρ]; kernel_rfl
        clear hρ hV
        refine runs_val (v := .pointer (some ⟨gd, 1, none⟩)) (w' := w) ?_ ⟨Below.refl _ _, rfl⟩
        go_simp <;> (first | exact IntWalk.u64_in _ (by omega) | exact IntWalk.u32_in _ (by omega) | exact IntWalk.u16_in _ (by omega) | exact IntWalk.u8_in _ (by omega) | exact IntWalk.i64_in _ (by omega) | skip)
      case r11_2o3 =>
        intro vs w hb hV
        rw [if_pos (by kernel_rfl)]
        generalize hρ : rho _ _ _ vs = ρ
        have d43 : (vs 2) = .pointer (some ⟨gd, 1, none⟩) := hV 2 (by kernel_rfl)
        have e43 : ρ (.tmp 43) = vs 2 := by rw [← hρ]; kernel_rfl
        rw [d43] at e43; clear d43
        clear hρ hV
        have c0 := pw_cell_below hb (show wr.cell? ⟨gd, 1, none⟩ = some (.int .u32 hs) from blk_cell (H.out.get (i := 3) rfl) 1)
        refine runs_val (v := .int .u32 hs) (w' := w) ?_ ⟨Below.refl _ _, rfl⟩
        go_simp
      case r11_2o4 =>
        intro vs w hb hV
        rw [if_pos (by kernel_rfl)]
        generalize hρ : rho _ _ _ vs = ρ
        have d42 : (vs 1) = .int .u32 hq := hV 1 (by kernel_rfl)
        have e42 : ρ (.tmp 42) = vs 1 := by rw [← hρ]; kernel_rfl
        rw [d42] at e42; clear d42
        have d44 : (vs 3) = .int .u32 hs := hV 3 (by kernel_rfl)
        have e44 : ρ (.tmp 44) = vs 3 := by rw [← hρ]; kernel_rfl
        rw [d44] at e44; clear d44
        clear hρ hV
        have hbq := HB.out
        refine runs_val (v := .bool (!β)) (w' := w) ?_ ⟨Below.refl _ _, rfl⟩
        go_simp
        unfold bne
        rw [hbq]
      case r11_2e =>
        intro vs z1 hb1 hV
        have d41 : (vs 0) = .agg (boardC F n) := hV 0 (Nat.le_of_ble_eq_true rfl)
        have d42 : (vs 1) = .int .u32 hq := hV 1 (Nat.le_of_ble_eq_true rfl)
        have d43 : (vs 2) = .pointer (some ⟨gd, 1, none⟩) := hV 2 (Nat.le_of_ble_eq_true rfl)
        have d44 : (vs 3) = .int .u32 hs := hV 3 (Nat.le_of_ble_eq_true rfl)
        have d45 : (vs 4) = .bool (!β) := hV 4 (Nat.le_of_ble_eq_true rfl)
        clear hV
        simp only [putAll]
        rw [d41, d42, d43, d44, d45]
        clear d41 d42 d43 d44 d45
        clear vs
        simp only [Act.put, List.setIfInBounds_toArray, List.set_cons_zero, List.set_cons_succ]
        have H2 := Aside0.mk (H.out.call hb1)
        clear hb1 H
        cases β with
        | true =>
          go_wp2_with (first | (refine wpList_load_row_g 34 (.tmp 6) rfl go rfl rfl 34 _ (0, 0) _ (H2.out.get (i := 0) rfl) Try.underlying34 rfl (HI _ _).out ?_) | (refine wpList_store_row rfl 34 (.tmp 4) (.tmp 47) rfl (gd + 1 + 1) (boardC F n) rfl rfl 34 _ (H2.out.get (i := 1) rfl) (HI _ _).out (by rw [boardC_size, boardC_size]) (HO _ _).out ?_))
          have H3 := Aside0.mk (H2.out.setRow (i := 1) rfl (boardC F n))
          refine bodyPost_ret (results_ct rfl _ _ (gd + 1 + 1) _ (boardC F n) (0, 0) _ rfl (H3.out.get (i := 1) rfl) Try.underlying34 rfl (HI _ _).out) rfl ?_
          rw [HGD.out]
          exact ⟨rfl, H3.out.bel⟩
        | false =>
          go_wp2_with (first | (refine wpList_load_row_g 34 (.tmp 3) rfl (gd + 1) rfl rfl 34 _ (0, 0) _ (H2.out.get (i := 2) rfl) Try.underlying34 rfl (HI _ _).out ?_) | (refine wpList_store_row rfl 34 (.tmp 4) (.tmp 46) rfl (gd + 1 + 1) (boardC f n) rfl rfl 34 _ (H2.out.get (i := 1) rfl) (HI _ _).out (by rw [boardC_size, boardC_size]) (HO _ _).out ?_))
          have H3 := Aside0.mk (H2.out.setRow (i := 1) rfl (boardC f n))
          refine bodyPost_ret (results_ct rfl _ _ (gd + 1 + 1) _ (boardC f n) (0, 0) _ rfl (H3.out.get (i := 1) rfl) Try.underlying34 rfl (HI _ _).out) rfl ?_
          rw [HGD.out]
          exact ⟨rfl, H3.out.bel⟩
end Go.Proofs.Ytkhlalpkkmjfnaa

namespace Go.Proofs.Ytkhlalpkkmjfnaa
open Go.RowKit Go.Proofs.YtkhlalpkkmjfnaaW.PrintWords Go.Proofs.YtkhlalpkkmjfnaaW.PrintLast Go.Proofs.YtkhlalpkkmjfnaaW.PrintMore
set_option linter.unusedVariables false
set_option linter.unusedSimpArgs false

set_option maxRecDepth 100000 in
set_option maxHeartbeats 8000000 in
theorem dboard_any (tk hs : Int) (m : Nat) (P : List Int) (C : List S30) (v : Value) (β : Bool) (w00 : World) (hv : DvC w00 tk hs P C v) (hm : m ≤ 48) (hl : P.length = m) (hlc : C.length = m) (hP : ∀ (i : Nat) (h : i < P.length), P[i] = (i : Int)) (hC : ∀ x ∈ C, U32 x.f1)
    (hβ : (((sumB true C : Nat) : Int) == hs) = β) :
    Calls Try.prog 20 #[v] w00 fun e w' => e = .returned (if β = true then .tuple #[.agg (boardC (fL C) m), .int .i64 0] else .tuple #[.agg (boardC (fun _ => z30) 0), .int .i64 13]) ∧ Below w00.heap.size w00 w' := by
  obtain ⟨A, c, A2, c2, rfl, h2, h3, h4, h5⟩ := hv
  rw [hl, hlc]
  rw [hl] at h2 h4
  rw [hlc] at h3 h5
  have hz := zero_board
  have HI := fun f m => Aside0.mk (board_info f m)
  have HO := fun f m => Aside0.mk (boardC_one f m)
  have HM := Aside0.mk hm
  have HPI := Aside0.mk hP
  have HPC := Aside0.mk (And.intro hl hlc)
  have HC2 := Aside0.mk h3
  have HF : Aside0 (∀ z, Below w00.heap.size w00 z → (Kd.int .u8).C z A m P ∧ k30.C z A2 m C) := ⟨fun z hb => ⟨Kd.C_below h4 hb, Kd.C_below h5 hb⟩⟩
  have H0 := Aside0.mk (((Hp.start w00).alloc (.cells #[.int .u32 tk, .int .u32 hs, .slice A m c, .slice A2 m c2] 41)).allocAt (.cells (boardC (fun _ => z30) 0) 34) (w00.heap.size + 1) (by simp))
  have hlF : listF (fL C) m = C := by rw [← hlc]; exact listF_fL C
  have KH := fun X : World => Aside0.mk (hash_any (fL C) m X hm (fun k hk => by rw [fL_get (by rw [hlc]; exact hk)]; exact hC _ (List.getElem_mem _)))
  rw [hlF] at KH
  have HB := Aside0.mk hβ
  generalize sumB true C = hq at *
  clear hm hl hlc hP hC hβ h2 h3 h4 h5 hlF
  go_enter Try.func20, Try.ntmps20
  go_upto_region 1 with fail
  generalize (w00.alloc (.cells #[.int .u32 tk, .int .u32 hs, .slice A m c, .slice A2 m c2] 41)).alloc (.cells (boardC (fun _ => z30) 0) 34) = W at *
  obtain ⟨gd, hgd⟩ : ∃ gd, w00.heap.size = gd := ⟨_, rfl⟩
  rw [hgd] at H0 HF
  rw [hgd]
  have HGD := Aside0.mk hgd
  clear hgd
  have c2' := blk_cell (H0.out.get (i := 1) rfl) 2
  go_wp2_with fail
  clear c2'
  go_loopw [11] (fun v11 wr => ∃ i : Nat, i ≤ m ∧ v11 = .int .i64 i ∧ Aside0 (Hp gd w00 wr [(gd + 1, .cells (boardC (fun _ => z30) 0) 34 (0, 0)), (gd, .cells #[.int .u32 tk, .int .u32 hs, .slice A m c, .slice A2 m c2] 41 (0, 0))] [])) (fun v11 _ => m - (intOf v11).toNat)
  case atStart => exact ⟨0, by omega, rfl, ⟨H0.out⟩⟩
  case round =>
    clear H0
    obtain ⟨i, hi, rfl, H⟩ := hrel
    by_cases hlt : i < m
    · have d1 : decide (i < m) = true := decide_eq_true hlt
      have hi0 : (0 : Int) ≤ i := by omega
      have him : (i : Int) < m := by omega
      have hiP : i < P.length := by rw [HPC.out.1]; exact hlt
      have hi256 : (i : Int) < 256 := by have := HM.out; omega
      obtain ⟨adp, hA, p0⟩ := int_at (HF.out wr H.out.bel).1 i hiP
      rw [HPI.out i hiP] at p0
      subst hA
      have HJB : IntKind.i64.wrap (i : Int) = (i : Int) := IntWalk.i64_in _ (by omega)
      go_wp2_with fail
      go_roundw
      case rel => exact ⟨i + 1, by omega, by go_num, H⟩
      case measure => simp [intOf]; omega
    · obtain rfl : i = m := by omega
      have d1 : decide (i < i) = false := decide_eq_false (by omega)
      clear hlt hi
      have c2' := blk_cell (H.out.get (i := 1) rfl) 2
      have c3' := blk_cell (H.out.get (i := 1) rfl) 3
      go_wp2_with fail
      refine (new_any A2 i c2 C _ (HF.out wr H.out.bel).2 HC2.out HM.out).mono ?_
      rintro e w2 ⟨rfl, hb2⟩
      have H1 := Aside0.mk (H.out.call hb2)
      obtain ⟨F, hF⟩ : ∃ F, fL C = F := ⟨_, rfl⟩
      have HFF := Aside0.mk hF
      rw [hF] at KH
      rw [hF]
      clear hb2 H c2' c3' hF
      have HZ := Aside0.mk (blk_new w2 (.cells (boardC (fun _ => z30) 0) 34))
      have H2 := Aside0.mk ((H1.out.alloc (.cells (boardC (fun _ => z30) 0) 34)).setRow (i := 0) rfl (boardC F i))
      clear H1
      have c2' := blk_cell (H2.out.get (i := 2) rfl) 2
      have c3' := blk_cell (H2.out.get (i := 2) rfl) 3
      go_wp2_with (first | (refine wpList_store_row rfl 34 (.tmp 6) (.tmp 26) rfl (w2.heap.size) (boardC F i) rfl rfl 34 _ HZ.out (HI _ _).out (by rw [boardC_size, boardC_size]) (HO _ _).out ?_))
      clear HZ c2' c3'
      generalize (w2.alloc (.cells (boardC (fun _ => z30) 0) 34)).setRow w2.heap.size (boardC F i) = w3 at *
      generalize w2.heap.size = gn at *
      refine region_grown (W := w3)
        [fun (w : World) (v : Value) => v = .agg (boardC F i),
         fun (w : World) (v : Value) => v = .int .u32 hq,
         fun (w : World) (v : Value) => v = .pointer (some ⟨gd, 1, none⟩),
         fun (w : World) (v : Value) => v = .int .u32 hs,
         fun (w : World) (v : Value) => v = .bool (!β),
         fun (w : World) (v : Value) => v = .bool (!β)]
        (fun j =>  none)
        [(0, some 42), (1, some 43), (2, some 44), (3, some 45), (4, some 46), (5, some 41)]
        []
        (by kernel_rfl) (by kernel_rfl) (by kernel_rfl) (by kernel_rfl) ?r10_1g ?r10_1s ⟨?r10_1o0, ?r10_1o1, ?r10_1o2, ?r10_1o3, ?r10_1o4, ?r10_1o5, trivial⟩ ?r10_1e
      case r10_1g =>
        intro j hj; cases hj
      case r10_1s =>
        refine ⟨(fun w w' v hb h => h), (fun w w' v hb h => h), (fun w w' v hb h => h), (fun w w' v hb h => h), (fun w w' v hb h => h), (fun w w' v hb h => h), trivial⟩
      case r10_1o0 =>
        intro vs w hb hV
        rw [if_pos (by kernel_rfl)]
        generalize hρ : rho _ _ _ vs = ρ
        have e6 : ρ (.tmp 6) = .pointer (some ⟨gn, 0, none⟩) := by rw [← hρ]; kernel_rfl
        clear hρ hV
        exact runs_load 34 (.tmp 6) rfl gn e6 34 (boardC F i) (0, 0) _ (((hb.block gn (blk_lt (H2.out.get (i := 0) rfl))).trans (H2.out.get (i := 0) rfl))) Try.underlying34 rfl (HI _ _).out ⟨Below.refl _ _, rfl⟩
      case r10_1o1 =>
        intro vs w hb hV
        rw [if_pos (by kernel_rfl)]
        generalize hρ : rho _ _ _ vs = ρ
        have d42 : (vs 0) = .agg (boardC F i) := hV 0 (by kernel_rfl)
        have e42 : ρ (.tmp 42) = vs 0 := by rw [← hρ]; kernel_rfl
        rw [d42] at e42; clear d42
        have ef35 : ρ (.func 35) = .func (.func 35) #[] #[] := by rw [← hρ]; rfl
        clear hρ hV
        refine runs_call (f := 35) (args := #[.agg (boardC F i)]) (w' := w) ?_ ?_
        · go_simp
        · refine (KH _).out.mono ?_
          rintro e w5 ⟨rfl, hb5⟩
          exact ⟨_, rfl, hb5, rfl⟩
      case r10_1o2 =>
        intro vs w hb hV
        rw [if_pos (by kernel_rfl)]
        generalize hρ : rho _ _ _ vs = ρ
        have e1 : ρ (.tmp 1) = .pointer (some ⟨gd, 0, none⟩) := by rw [← hρ]; kernel_rfl
        clear hρ hV
        refine runs_val (v := .pointer (some ⟨gd, 1, none⟩)) (w' := w) ?_ ⟨Below.refl _ _, rfl⟩
        go_simp <;> (first | exact IntWalk.u64_in _ (by omega) | exact IntWalk.u32_in _ (by omega) | exact IntWalk.u16_in _ (by omega) | exact IntWalk.u8_in _ (by omega) | exact IntWalk.i64_in _ (by omega) | skip)
      case r10_1o3 =>
        intro vs w hb hV
        rw [if_pos (by kernel_rfl)]
        generalize hρ : rho _ _ _ vs = ρ
        have d44 : (vs 2) = .pointer (some ⟨gd, 1, none⟩) := hV 2 (by kernel_rfl)
        have e44 : ρ (.tmp 44) = vs 2 := by rw [← hρ]; kernel_rfl
        rw [d44] at e44; clear d44
        clear hρ hV
        have c0 := pw_cell_below hb (show w3.cell? ⟨gd, 1, none⟩ = some (.int .u32 hs) from blk_cell (H2.out.get (i := 2) rfl) 1)
        refine runs_val (v := .int .u32 hs) (w' := w) ?_ ⟨Below.refl _ _, rfl⟩
        go_simp
      case r10_1o4 =>
        intro vs w hb hV
        rw [if_pos (by kernel_rfl)]
        generalize hρ : rho _ _ _ vs = ρ
        have d43 : (vs 1) = .int .u32 hq := hV 1 (by kernel_rfl)
        have e43 : ρ (.tmp 43) = vs 1 := by rw [← hρ]; kernel_rfl
        rw [d43] at e43; clear d43
        have d45 : (vs 3) = .int .u32 hs := hV 3 (by kernel_rfl)
        have e45 : ρ (.tmp 45) = vs 3 := by rw [← hρ]; kernel_rfl
        rw [d45] at e45; clear d45
        clear hρ hV
        have hbq := HB.out
        refine runs_val (v := .bool (!β)) (w' := w) ?_ ⟨Below.refl _ _, rfl⟩
        go_simp
        unfold bne
        rw [hbq]
      case r10_1o5 =>
        intro vs w hb hV
        rw [if_pos (by kernel_rfl)]
        generalize hρ : rho _ _ _ vs = ρ
        have d46 : (vs 4) = .bool (!β) := hV 4 (by kernel_rfl)
        have e46 : ρ (.tmp 46) = vs 4 := by rw [← hρ]; kernel_rfl
        clear hρ hV
        refine runs_val (v := vs 4) (w' := w) ?_ ⟨Below.refl _ _, d46⟩
        go_simp
      case r10_1e =>
        intro vs w4 hb4 hV
        have d42 : (vs 0) = .agg (boardC F i) := hV 0 (Nat.le_of_ble_eq_true rfl)
        have d43 : (vs 1) = .int .u32 hq := hV 1 (Nat.le_of_ble_eq_true rfl)
        have d44 : (vs 2) = .pointer (some ⟨gd, 1, none⟩) := hV 2 (Nat.le_of_ble_eq_true rfl)
        have d45 : (vs 3) = .int .u32 hs := hV 3 (Nat.le_of_ble_eq_true rfl)
        have d46 : (vs 4) = .bool (!β) := hV 4 (Nat.le_of_ble_eq_true rfl)
        have d41 : (vs 5) = .bool (!β) := hV 5 (Nat.le_of_ble_eq_true rfl)
        clear hV
        simp only [putAll]
        rw [d42, d43, d44, d45, d46, d41]
        clear d42 d43 d44 d45 d46 d41
        clear vs
        simp only [Act.put, List.setIfInBounds_toArray, List.set_cons_zero, List.set_cons_succ]
        have H3 := Aside0.mk (H2.out.call hb4)
        clear hb4 H2
        cases β with
        | true =>
          go_wp2_with (first | (refine wpList_load_row_g 34 (.tmp 6) rfl gn rfl rfl 34 _ (0, 0) _ (H3.out.get (i := 0) rfl) Try.underlying34 rfl (HI _ _).out ?_) | (refine wpList_store_row rfl 34 (.tmp 2) (.tmp 48) rfl (gd + 1) (boardC F i) rfl rfl 34 _ (H3.out.get (i := 1) rfl) (HI _ _).out (by rw [boardC_size, boardC_size]) (HO _ _).out ?_))
          have H4 := Aside0.mk (H3.out.setRow (i := 1) rfl (boardC F i))
          refine bodyPost_ret (results_ct rfl _ _ (gd + 1) _ (boardC F i) (0, 0) _ rfl (H4.out.get (i := 1) rfl) Try.underlying34 rfl (HI _ _).out) rfl ?_
          rw [HGD.out]
          exact ⟨by rw [HFF.out]; rfl, H4.out.bel⟩
        | false =>
          go_wp2_with (first | (refine wpList_store_row rfl 34 (.tmp 2) (.tmp 47) rfl (gd + 1) (boardC (fun _ => z30) 0) rfl rfl 34 _ (H3.out.get (i := 1) rfl) (HI _ _).out rfl (HO _ _).out ?_))
          have H4 := Aside0.mk (H3.out.setRow (i := 1) rfl (boardC (fun _ => z30) 0))
          refine bodyPost_ret (results_ct rfl _ _ (gd + 1) _ (boardC (fun _ => z30) 0) (0, 0) _ rfl (H4.out.get (i := 1) rfl) Try.underlying34 rfl (HI _ _).out) rfl ?_
          rw [HGD.out]
          exact ⟨rfl, H4.out.bel⟩
end Go.Proofs.Ytkhlalpkkmjfnaa

namespace Go.Proofs.Ytkhlalpkkmjfnaa
open Go.RowKit Go.Proofs.YtkhlalpkkmjfnaaW.PrintWords Go.Proofs.YtkhlalpkkmjfnaaW.PrintLast Go.Proofs.YtkhlalpkkmjfnaaW.PrintMore
set_option linter.unusedVariables false
set_option linter.unusedSimpArgs false

theorem puts_touch (f h : Nat → S30) (K : List Nat) : ∀ i, i ≤ K.length → putsF f (K.map (fun i : Nat => (i : Int))) (K.map h) i = fun k => if k ∈ K.take i then h k else f k
  | 0, _ => by funext k; simp [putsF]
  | i + 1, hi => by
    have hik : i < K.length := by omega
    rw [putsF_succ f (i := i) (j := K[i]) (by rw [List.length_map]; omega) (by rw [List.length_map]; omega) (by simp), puts_touch f h K i (by omega)]
    funext k
    unfold putF
    rw [take_snoc hik]
    by_cases e : k = K[i]
    · subst e
      rw [if_pos rfl, if_pos (List.mem_append_right _ (List.mem_singleton.2 rfl))]
      simp
    · rw [if_neg e]
      show (if k ∈ K.take i then h k else f k) = _
      by_cases h2 : k ∈ K.take i
      · rw [if_pos h2, if_pos (List.mem_append_left _ h2)]
      · rw [if_neg h2, if_neg (fun h3 => (List.mem_append.1 h3).elim h2 (fun h4 => e (by simpa using h4)))]
/-- On the view ahead of it the view behind it. -/
theorem apply_of {f h : Nat → S30} {t n : Nat} (e : ∀ k, k < n → bitT t k = false → f k = h k) (eo : ∀ k, ¬ k < n → f k = h k) : putsF f (plL t n) (clL h t n) (plL t n).length = h := by
  unfold plL clL
  rw [List.length_map, puts_touch f h _ _ (Nat.le_refl _), List.take_length]
  funext k
  by_cases hk : k ∈ touchL t n
  · rw [if_pos hk]
  · rw [if_neg hk]
    by_cases hn : k < n
    · refine e k hn ?_
      cases hb : bitT t k with
      | false => rfl
      | true => exact absurd (List.mem_filter.2 ⟨List.mem_range.2 hn, hb⟩) hk
    · exact eo k hn
theorem plL_lt {t n : Nat} : ∀ x ∈ plL t n, (0 : Int) ≤ x ∧ x < n := fun x hx => by
  obtain ⟨k, hk, rfl⟩ := List.mem_map.1 hx
  have := touchL_mem hk
  omega
theorem plcl_len (f : Nat → S30) (t n : Nat) : (plL t n).length = (clL f t n).length := by unfold plL clL; rw [List.length_map, List.length_map]
theorem all_bit {k : Nat} (h : k < 48) : bitT allT k = true := by
  have : ∀ k : Fin 48, bitT allT k.1 = true := by decide
  exact this ⟨k, h⟩
theorem touch_all {n : Nat} (hn : n ≤ 48) : touchL allT n = List.range n := by
  unfold touchL
  rw [List.filter_eq_self]
  intro k hk
  have := List.mem_range.1 hk
  exact all_bit (by omega)
theorem plL_all {n : Nat} (hn : n ≤ 48) : (plL allT n).length = n ∧ ∀ (i : Nat) (h : i < (plL allT n).length), (plL allT n)[i] = (i : Int) := by
  unfold plL
  rw [touch_all hn]
  refine ⟨by simp, fun i h => by simp⟩
theorem clL_all (f : Nat → S30) {n : Nat} (hn : n ≤ 48) : clL f allT n = listF f n := by
  unfold clL listF
  rw [touch_all hn]
theorem clL_u32 {f : Nat → S30} {t n : Nat} (h : ∀ k, k < n → U32 (f k).f1) : ∀ x ∈ clL f t n, U32 x.f1 := fun x hx => by
  obtain ⟨k, hk, rfl⟩ := List.mem_map.1 hx
  exact h k (touchL_mem hk)
/-- What was told by Of, as a fact of a walk. -/
theorem Hp.ofR {B : Nat} {w0 W W1 : World} {L : List (Nat × Obj)} {F : List (World → Prop)} {tk hs : Int} {P : List Int} {C : List S30} {v : Value} (h : Hp B w0 W L F) (hb : Below W.heap.size W W1) (hr : OfR W.heap.size W1 tk hs P C v) : Hp B w0 W1 L ((fun X => OfR B X tk hs P C v) :: F) := by
  refine h.told hb (fun W' h0 hq => ?_)
  obtain ⟨A, c, A2, c2, e, h1, h2, h3, h4⟩ := hr
  refine ⟨A, c, A2, c2, e, h1, h2, ?_, ?_⟩
  · exact Kd.R_mono (Kd.R_lower (Kd.R_step (Kd.R_mono (Kd.R_bound h3) (fun k hk => (⟨hk.2.1, hk.2.2.1⟩ : W.heap.size ≤ k ∧ k < W1.heap.size))) (fun k hk hlt => hq k hk.1 hk.2)) h.le) (fun _ _ => trivial)
  · exact Kd.R_mono (Kd.R_lower (Kd.R_step (Kd.R_mono (Kd.R_bound h4) (fun k hk => (⟨hk.2.1, hk.2.2.1⟩ : W.heap.size ≤ k ∧ k < W1.heap.size))) (fun k hk hlt => hq k hk.1 hk.2)) h.le) (fun _ _ => trivial)
theorem OfR.turn {B : Nat} {X : World} {tk hs hs' : Int} {P : List Int} {C : List S30} {a b : Value} (h : OfR B X tk hs P C (.agg #[.int .u32 tk, .int .u32 hs, a, b])) : DvC X tk hs' P C (.agg #[.int .u32 tk, .int .u32 hs', a, b]) := by
  obtain ⟨A, c, A2, c2, e, h1, h2, h3, h4⟩ := h.cells
  simp only [Value.agg.injEq, Array.mk.injEq, List.cons.injEq, and_true, true_and] at e
  obtain ⟨rfl, rfl⟩ := e
  exact ⟨A, c, A2, c2, rfl, h1, h2, h3, h4⟩
theorem xor_u32 (a b : Nat) (ha : a < 4294967296) (hb : b < 4294967296) : bits .xor .u32 (a : Int) (b : Int) = ((a ^^^ b : Nat) : Int) := by
  show IntKind.u32.wrap ((BitVec.ofInt 32 (a : Int) ^^^ BitVec.ofInt 32 (b : Int)).toNat : Int) = _
  have e1 : BitVec.ofInt 32 (a : Int) = BitVec.ofNat 32 a := by simp
  have e2 : BitVec.ofInt 32 (b : Int) = BitVec.ofNat 32 b := by simp
  rw [e1, e2, BitVec.toNat_xor, BitVec.toNat_ofNat, BitVec.toNat_ofNat, Nat.mod_eq_of_lt (by omega), Nat.mod_eq_of_lt (by omega)]
  exact IntWalk.u32_in _ (by have := Nat.xor_lt_two_pow (n := 32) (show a < 2 ^ 32 by omega) (show b < 2 ^ 32 by omega); omega)
theorem xor_same {a b : Nat} : (((a : Nat) : Int) == ((a ^^^ b : Nat) : Int)) = decide (b = 0) := by
  by_cases h : b = 0
  · subst h; simp
  · rw [decide_eq_false h]
    have : a ≠ a ^^^ b := fun e => h (by
      have h2 : a ^^^ a = a ^^^ (a ^^^ b) := by rw [← e]
      rw [Nat.xor_self, ← Nat.xor_assoc, Nat.xor_self, Nat.zero_xor] at h2
      exact h2.symm)
    simp; omega
theorem R_fills {α : Type} {d : Kd α} {e b B : Nat} {w w' : World} {Zc : Array Value} {F : Obj} {v : Value} {xs : List α} {T : TypeId} (h : d.R e w b (fun _ => True) v xs) (hE : d.E = []) (hT : e ≠ T) (hf : Fills B (.cells Zc T (0, 0)) F w w') : d.R e w' b (fun _ => True) v xs := by
  refine Kd.R_mono (Kd.R_step (Kd.R_bound h) (fun k hk hlt => ?_)) (fun _ _ => trivial)
  rcases hf.2 k hlt with h1 | ⟨_, h1, _⟩
  · exact h1
  · obtain ⟨_, _, _, q, hq, cells, h2⟩ := hk
    rw [hE] at hq
    obtain rfl := List.mem_singleton.1 hq
    rw [h1] at h2
    simp only [Option.some.injEq, Obj.cells.injEq] at h2
    exact absurd h2.2.1.symm hT
theorem OfR.fills {b B : Nat} {w w' : World} {tk hs : Int} {P : List Int} {C : List S30} {v : Value} {Zc : Array Value} {F : Obj} (h : OfR b w tk hs P C v) (hf : Fills B (.cells Zc 34 (0, 0)) F w w') : OfR b w' tk hs P C v := by
  obtain ⟨A, c, A2, c2, e, h1, h2, h3, h4⟩ := h
  exact ⟨A, c, A2, c2, e, h1, h2, R_fills h3 rfl (by decide) hf, R_fills h4 rfl (by decide) hf⟩
theorem OfR.lower {b b' : Nat} {w : World} {tk hs : Int} {P : List Int} {C : List S30} {v : Value} (h : OfR b w tk hs P C v) (hb : b' ≤ b) : OfR b' w tk hs P C v := by
  obtain ⟨A, c, A2, c2, e, h1, h2, h3, h4⟩ := h
  exact ⟨A, c, A2, c2, e, h1, h2, Kd.R_lower h3 hb, Kd.R_lower h4 hb⟩
theorem bits_u32 (op : BinOp) (a b : Int) : U32 (bits op .u32 a b) := by
  have : ∀ x : Int, U32 (IntKind.u32.wrap x) := fun x => by unfold U32; rw [IntKind.wrap_u32]; omega
  unfold bits
  exact this _
end Go.Proofs.Ytkhlalpkkmjfnaa

namespace Go.Proofs.Ytkhlalpkkmjfnaa
open Go.RowKit Go.Proofs.YtkhlalpkkmjfnaaW.PrintWords Go.Proofs.YtkhlalpkkmjfnaaW.PrintLast Go.Proofs.YtkhlalpkkmjfnaaW.PrintMore
set_option linter.unusedVariables false
set_option linter.unusedSimpArgs false

theorem board_neq7 (f h : Nat → S30) (n m : Int) (w : World) : (binOp .neq 34 (.agg (boardC f n)) (.agg (boardC h m))).run Try.prog w = .ok (.bool (!sameB f h n m)) w := by
  rw [run_neq_struct]
  rw [eqBoard 9996]; rfl
theorem tmod2 {x : Nat} : ((x : Nat) : Int).tmod 2 = ((x % 2 : Nat) : Int) := by rw [Int.tmod_eq_emod_of_nonneg (by omega)]; omega
theorem bit7_no {t i : Nat} (h : bitT t i = false) : ((t : Int) / 2 ^ i).tmod 2 = 0 := by
  have e3 : t / 2 ^ i % 2 = 0 := by unfold bitT at h; simpa using h
  have h2 : ((t / 2 ^ i : Nat) : Int).tmod 2 = 0 := by rw [tmod2, e3]; rfl
  push_cast at h2
  exact h2
theorem bit7_yes {t i : Nat} (h : bitT t i = true) : ((t : Int) / 2 ^ i).tmod 2 = 1 := by
  have e3 : t / 2 ^ i % 2 = 1 := by unfold bitT at h; simpa using h
  have h2 : ((t / 2 ^ i : Nat) : Int).tmod 2 = 1 := by rw [tmod2, e3]; rfl
  push_cast at h2
  exact h2
theorem fL_listF' (h : Nat → S30) (m : Nat) (e : ∀ j, ¬ j < m → h j = z30) : fL (listF h m) = h := by
  funext j
  by_cases hj : j < m
  · rw [fL_get (by rw [listF_length]; exact hj), listF_get]
  · rw [e j hj]; unfold fL; rw [List.getD_eq_getElem?_getD, List.getElem?_eq_none (by rw [listF_length]; omega)]; rfl
set_option maxRecDepth 100000 in
set_option maxHeartbeats 8000000 in
theorem chains_walk (A : Option Addr) (n c : Nat) (L : List S30) (A2 : Option Addr) (q c2 : Nat) (T : List Int) (A3 : Option Addr) (r c3 : Nat) (ws : List Int) (o : Int) (w : World) (hr : k30.C w A n L) (hc : n ≤ c) (hw : ∀ x ∈ L, OkC x) (hrt : (Kd.int .u64).C w A2 q T) (hct : q ≤ c2) (hbt : ∀ x ∈ T, 0 ≤ x ∧ x ≤ 18446744073709551615) (hrv : (Kd.int .i32).C w A3 r ws) (hcv : r ≤ c3) (hbv : ∀ x ∈ ws, -2147483648 ≤ x ∧ x ≤ 2147483647) (hO : I64 o) :
    Calls Try.prog 4 #[.slice A n c, .slice A2 q c2, .slice A3 r c3, .int .i64 o] w fun e w' => e = .returned (.bool true) ∧ Below w.heap.size w w' := by
  have HW := Aside0.mk hw
  have HRT := Aside0.mk hrt
  have HRV := Aside0.mk hrv
  have HTB := Aside0.mk hbt
  have HQL := Aside0.mk (And.intro hrt.1 (And.intro hrt.2.1 (And.intro hrv.1 hrv.2.1)))
  clear hw hO hrt hct hbt hrv hcv hbv
  have HR := Aside0.mk hr
  have HCAP := Aside0.mk hc
  have hz := zero_board
  have HI := fun f m => Aside0.mk (board_info f m)
  have HO := fun f m => Aside0.mk (boardC_one f m)
  clear hr hc
  go_enter Try.func4, Try.ntmps4
  go_wp2_with fail
  refine (awake7_any _).mono ?_
  rintro e w1 ⟨rfl, hb1⟩
  have HP1 := Aside0.mk ((Hp.start w).call hb1)
  have HR1 := Aside0.mk (Kd.C_below HR.out hb1)
  clear hb1 HR
  go_wp2_with fail
  refine (few7_any _ _ _ L _ HR1.out HCAP.out).mono ?_
  rintro e w2 ⟨v2, rfl, hv2, hb2⟩
  have h48 : (L.take 48).length ≤ 48 := List.length_take_le _ _
  obtain ⟨M, hM⟩ : ∃ M, L.take 48 = M := ⟨_, rfl⟩
  rw [hM] at hv2 h48
  have HM := Aside0.mk hM
  obtain ⟨m, hm⟩ : ∃ m, M.length = m := ⟨_, rfl⟩
  obtain ⟨Q, d, hv, hd, hC⟩ := Kd.R_reads hv2
  rw [hm] at hv hd hC h48
  subst hv
  have HP2 := Aside0.mk (HP1.out.row hb2 hv2)
  have HC2 := Aside0.mk hC
  have HMD := Aside0.mk hd
  have HML := Aside0.mk hm
  have H48 := Aside0.mk h48
  clear hb2 hv2 hd hC hM hm HP1 HR1 HCAP
  have HOK : Aside0 (∀ x ∈ M, OkC x) := ⟨fun x hx => HW.out x (by rw [← HM.out] at hx; exact List.mem_of_mem_take hx)⟩
  clear HW
  go_wp2_with fail
  refine (new_any Q m d M _ HC2.out HMD.out H48.out).mono ?_
  rintro e w3 ⟨rfl, hb3⟩
  have HP3 := Aside0.mk ((HP2.out.call hb3).drop (F' := []) (fun φ h => by cases h))
  obtain ⟨f, hf⟩ : ∃ f, fL M = f := ⟨_, rfl⟩
  rw [hf]
  have hOK : ∀ i, i < m → U32 (f i).f1 := fun i hi => by
    have hiM : i < M.length := by rw [HML.out]; exact hi
    rw [← hf, fL_get hiM]; exact (HOK.out _ (List.getElem_mem hiM)).u32
  have HF0 : Aside0 ((∀ i, i < m → U32 (f i).f1) ∧ ∀ i, ¬ i < m → f i = z30) := ⟨hOK, fun i hi => by rw [← hf]; unfold fL; rw [List.getD_eq_getElem?_getD, List.getElem?_eq_none (by rw [HML.out]; omega)]; rfl⟩
  clear hb3 HP2 HC2 hf hOK HOK
  have HZ := Aside0.mk (blk_new w3 (.cells (boardC (fun _ => z30) 0) 34))
  have HP4 := Aside0.mk ((HP3.out.alloc (.cells (boardC (fun _ => z30) 0) 34)).setRow (i := 0) rfl (boardC f m))
  clear HP3
  go_wp2_with (first | (refine wpList_store_row rfl 34 (.tmp 9) (.tmp 28) rfl (w3.heap.size) (boardC f m) rfl rfl 34 _ HZ.out (HI _ _).out (by rw [boardC_size, boardC_size]) (HO _ _).out ?_) | (refine wpList_load_row_g 34 (.tmp 9) rfl (w3.heap.size) rfl rfl 34 _ (0, 0) _ (HP4.out.get (i := 0) rfl) Try.underlying34 rfl (HI _ _).out ?_))
  clear HZ
  generalize (w3.alloc (.cells (boardC (fun _ => z30) 0) 34)).setRow w3.heap.size (boardC f m) = w4 at *
  generalize w3.heap.size = ga at *
  refine (view_any f m o _ H48.out).mono ?_
  rintro e w5 ⟨rfl, hb5⟩
  have HP5 := Aside0.mk (HP4.out.call hb5)
  clear hb5 HP4
  have HZ := Aside0.mk (blk_new w5 (.cells (boardC (fun _ => z30) 0) 34))
  have HP6 := Aside0.mk ((HP5.out.alloc (.cells (boardC (fun _ => z30) 0) 34)).setRow (i := 0) rfl (boardC (viewF f m o) m))
  clear HP5
  go_wp2_with (first | (refine wpList_store_row rfl 34 (.tmp 11) (.tmp 32) rfl (w5.heap.size) (boardC (viewF f m o) m) rfl rfl 34 _ HZ.out (HI _ _).out (by rw [boardC_size, boardC_size]) (HO _ _).out ?_))
  clear HZ
  generalize (w5.alloc (.cells (boardC (fun _ => z30) 0) 34)).setRow w5.heap.size (boardC (viewF f m o) m) = w6 at *
  generalize w5.heap.size = gv at *
  obtain ⟨w00, hw00⟩ : ∃ x, x = w := ⟨_, rfl⟩
  subst hw00
  generalize hB : w00.heap.size = B at *
  have HBE := Aside0.mk hB
  clear hB
  have hq64 : (q : Int) ≤ 9223372036854775807 := by have := HQL.out.2.1; omega
  have hr64 : (r : Int) ≤ 9223372036854775807 := by have := HQL.out.2.2.2; omega
  go_loopw [35] (fun v35 wr => ∃ i : Nat, i ≤ q ∧ v35 = .int .i64 i ∧ ∃ F : Nat → S30, Aside0 (Hp B w00 wr [(gv, .cells (boardC (viewF F m o) m) 34 (0, 0)), (ga, .cells (boardC F m) 34 (0, 0))] [] ∧ (∀ j, j < m → U32 (F j).f1) ∧ ∀ j, ¬ j < m → F j = z30)) (fun v35 _ => q - (intOf v35).toNat)
  case atStart => exact ⟨0, by omega, rfl, f, ⟨HP6.out, HF0.out.1, HF0.out.2⟩⟩
  case round =>
    clear HP6 HF0
    obtain ⟨i, hi, rfl, F0, H⟩ := hrel
    have HUO := Aside0.mk H.out.2
    by_cases hlt : i < q
    · have d1 : decide (i < q) = true := decide_eq_true hlt
      have hi0 : (0 : Int) ≤ i := by omega
      have hiq : (i : Int) < q := by omega
      have hiT : i < T.length := by rw [HQL.out.1]; exact hlt
      obtain ⟨adt, hA2, t0⟩ := int_at (Kd.C_below HRT.out (by rw [HBE.out]; exact H.out.1.bel)) i hiT
      have HTI := HTB.out _ (List.getElem_mem hiT)
      obtain ⟨t, ht⟩ : ∃ t : Nat, T[i] = (t : Int) := ⟨T[i].toNat, by omega⟩
      rw [ht] at t0 HTI
      have HT : Aside0 (t < 18446744073709551616) := ⟨by omega⟩
      subst hA2
      clear HTI ht
      by_cases h12 : i < 12
      · have d2 : decide (12 ≤ (i : Int)) = false := decide_eq_false (by omega)
        have d2' : ¬ (12 : Int) ≤ i := by omega
        go_wp2_with fail
        go_loopw [44] (fun v44 wr => ∃ k : Nat, k ≤ m ∧ v44 = .int .i64 k ∧ ∃ F : Nat → S30, Aside0 (Hp B w00 wr [(gv, .cells (boardC (viewF F0 m o) m) 34 (0, 0)), (ga, .cells (boardC F m) 34 (0, 0))] [] ∧ (∀ j, j < m → U32 (F j).f1) ∧ (∀ j, ¬ j < m → F j = z30) ∧ ∀ j, j < m → bitT t j = false → F j = F0 j)) (fun v44 _ => m - (intOf v44).toNat)
        case atStart => exact ⟨0, by omega, rfl, F0, ⟨H.out.1, H.out.2.1, H.out.2.2, fun _ _ _ => rfl⟩⟩
        case round =>
          clear H t0
          obtain ⟨k, hk, rfl, F, H⟩ := hrel
          by_cases hlk : k < m
          · have d3 : decide (k < m) = true := decide_eq_true hlk
            have hk0 : (0 : Int) ≤ k := by omega
            have hkm : (k : Int) < m := by omega
            have hm48 : m ≤ 48 := H48.out
            have es := shr_div t k HT.out (by omega)
            cases hbt : bitT t k with
            | false =>
              have e2 := bit7_no hbt
              clear hbt es
              go_wp2_with fail
              go_roundw
              case rel => exact ⟨k + 1, by omega, by go_num, F, H⟩
              case measure => simp [intOf]; omega
            | true =>
              have e2 := bit7_yes hbt
              have HBT := Aside0.mk hbt
              clear hbt es
              by_cases hkr : k < r
              · have d4 : decide (k < r) = true := decide_eq_true hkr
                have hkr' : (k : Int) < r := by omega
                have hkV : k < ws.length := by rw [HQL.out.2.2.1]; exact hkr
                go_wp2_with (first | (refine wpList_load_row_g 34 (.tmp 9) rfl (ga) rfl rfl 34 _ (0, 0) _ (H.out.1.get (i := 1) rfl) Try.underlying34 rfl (HI _ _).out ?_))
                refine (at_any F m k _ hlk H48.out).mono ?_
                rintro e z1 ⟨rfl, hb1⟩
                have H1 := Aside0.mk (H.out.1.call hb1)
                have HU1 := Aside0.mk H.out.2
                obtain ⟨x, hx⟩ : ∃ x, F k = x := ⟨_, rfl⟩
                rw [hx]
                clear hb1 H hx
                obtain ⟨adv, hA3, v0⟩ := int_at (Kd.C_below HRV.out (by rw [HBE.out]; exact H1.out.bel)) k hkV
                have HVK0 : Aside0 (∀ z, Below B w00 z → ∃ ad, A3 = some ad ∧ z.cell? (ad.add k) = some (.int .i32 ws[k])) := ⟨fun z hz => int_at (Kd.C_below HRV.out (by rw [HBE.out]; exact hz)) k hkV⟩
                subst hA3
                obtain ⟨vk, hvk⟩ : ∃ vk, ws[k] = vk := ⟨_, rfl⟩
                have HVK : Aside0 (∀ z, Below B w00 z → z.cell? (adv.add k) = some (.int .i32 vk)) := ⟨fun z hz => by obtain ⟨ad, e, h⟩ := HVK0.out z hz; rw [Option.some.inj e, ← hvk]; exact h⟩
                clear v0 HVK0 hvk
                go_wp2_with fail
                have H2 := Aside0.mk (H1.out.alloc (.cells #[.int .i32 x.f0, .int .u32 x.f1] 30))
                clear H1
                generalize z1.alloc (.cells #[.int .i32 x.f0, .int .u32 x.f1] 30) = z2 at *
                generalize z1.heap.size = gc at *
                refine regionS (W := z2)
                  [fun _ v => v = .pointer (some ⟨gc, 0, none⟩),
                   fun _ v => v = .int .i32 x.f0,
                   fun _ v => v = .slice (some adv) r c3,
                   fun _ v => v = .int .i64 k,
                   fun _ v => v = .pointer (some (adv.add k)),
                   fun _ v => v = .int .i32 vk,
                   fun _ v => v = .int .i32 (IntKind.i32.wrap (x.f0 + vk)),
                   fun _ v => v = .pointer (some ⟨gc, 0, none⟩),
                   fun _ _ => True]
                  [8]
                  (fun t => match t with | 0 => fun (rs : List Value) (w : World) => Hp B w00 w [(gc, .cells #[.int .i32 x.f0, .int .u32 x.f1] 30 (0, 0)), (gv, .cells (boardC (viewF F0 m o) m) 34 (0, 0)), (ga, .cells (boardC F m) 34 (0, 0))] [] | 1 => fun (rs : List Value) (w : World) => Hp B w00 w [(gc, .cells #[.int .i32 (IntKind.i32.wrap (x.f0 + vk)), .int .u32 x.f1] 30 (0, 0)), (gv, .cells (boardC (viewF F0 m o) m) 34 (0, 0)), (ga, .cells (boardC F m) 34 (0, 0))] [] | _ => fun _ _ => False)
                  (fun _ _ _ => True) (fun w => Below B w00 w ∧ B ≤ w.heap.size)
                  (fun j =>  none)
                  [(0, some 64), (1, some 65), (2, some 66), (3, some 67), (4, some 68), (5, some 69), (6, some 70), (7, some 71), (8, none)]
                  []
                  (by kernel_rfl) (by kernel_rfl) (by kernel_rfl) (by kernel_rfl) (by kernel_rfl) ?z15_1c ?z15_1i ?z15_1b ?z15_1d ?z15_1g ⟨?z15_1t0, ?z15_1t1, ?z15_1t2, ?z15_1t3, ?z15_1t4, ?z15_1t5, ?z15_1t6, ?z15_1t7, ?z15_1t8, trivial⟩ ⟨?z15_1o0, ?z15_1o1, ?z15_1o2, ?z15_1o3, ?z15_1o4, ?z15_1o5, ?z15_1o6, ?z15_1o7, ?z15_1o8, trivial⟩ ?z15_1e
                case z15_1c => exact ⟨H2.out.drew.bel, H2.out.drew.le⟩
                case z15_1i => exact H2.out.drew
                case z15_1b => intro w w' hb h; exact ⟨h.1.trans (hb.mono h.2), Nat.le_trans h.2 hb.size⟩
                case z15_1d =>
                  intro t rs w w' hb h
                  match t, h with
                  | 0, h => (replace h : Hp B w00 w [(gc, .cells #[.int .i32 x.f0, .int .u32 x.f1] 30 (0, 0)), (gv, .cells (boardC (viewF F0 m o) m) 34 (0, 0)), (ga, .cells (boardC F m) 34 (0, 0))] [] := h); show Hp B w00 w' [(gc, .cells #[.int .i32 x.f0, .int .u32 x.f1] 30 (0, 0)), (gv, .cells (boardC (viewF F0 m o) m) 34 (0, 0)), (ga, .cells (boardC F m) 34 (0, 0))] []; exact h.call hb
                  | 1, h => (replace h : Hp B w00 w [(gc, .cells #[.int .i32 (IntKind.i32.wrap (x.f0 + vk)), .int .u32 x.f1] 30 (0, 0)), (gv, .cells (boardC (viewF F0 m o) m) 34 (0, 0)), (ga, .cells (boardC F m) 34 (0, 0))] [] := h); show Hp B w00 w' [(gc, .cells #[.int .i32 (IntKind.i32.wrap (x.f0 + vk)), .int .u32 x.f1] 30 (0, 0)), (gv, .cells (boardC (viewF F0 m o) m) 34 (0, 0)), (ga, .cells (boardC F m) 34 (0, 0))] []; exact h.call hb
                  | _ + 2, h => exact h.elim
                case z15_1g =>
                  intro j hj; cases hj
                case z15_1t0 => exact StabS.const _ _ _ _
                case z15_1t1 => exact StabS.const _ _ _ _
                case z15_1t2 => exact StabS.const _ _ _ _
                case z15_1t3 => exact StabS.const _ _ _ _
                case z15_1t4 => exact StabS.const _ _ _ _
                case z15_1t5 => exact StabS.const _ _ _ _
                case z15_1t6 => exact StabS.const _ _ _ _
                case z15_1t7 => exact StabS.const _ _ _ _
                case z15_1t8 => exact StabS.const _ _ _ _
                case z15_1o0 =>
                  intro vs w t hC ht1 ht2 hS hV
                  rw [if_pos (by kernel_rfl)]
                  generalize hρ : rho _ _ _ vs = ρ
                  have e15 : ρ (.tmp 15) = .pointer (some ⟨gc, 0, none⟩) := by rw [← hρ]; kernel_rfl
                  clear hρ hV
                  refine runs_val (v := .pointer (some ⟨gc, 0, none⟩)) (w' := w) ?_ ⟨Below.refl _ _, rfl⟩
                  clear ht1 ht2 hS hC
                  go_simp <;> (first | exact IntWalk.u64_in _ (by omega) | exact IntWalk.u32_in _ (by omega) | exact IntWalk.u16_in _ (by omega) | exact IntWalk.u8_in _ (by omega) | exact IntWalk.i64_in _ (by omega) | skip)
                case z15_1o1 =>
                  intro vs w t hC ht1 ht2 hS hV
                  have ht0 : t ≤ 0 := by
                    rcases Nat.lt_or_ge 0 t with hq | hq
                    · exact absurd (ht1 0 8 _ hq rfl rfl) (by decide +kernel)
                    · exact hq
                  obtain rfl : t = 0 := by omega
                  replace hS : Hp B w00 w [(gc, .cells #[.int .i32 x.f0, .int .u32 x.f1] 30 (0, 0)), (gv, .cells (boardC (viewF F0 m o) m) 34 (0, 0)), (ga, .cells (boardC F m) 34 (0, 0))] [] := hS
                  rw [if_pos (by kernel_rfl)]
                  generalize hρ : rho _ _ _ vs = ρ
                  have d64 : (vs 0) = .pointer (some ⟨gc, 0, none⟩) := hV 0 (by kernel_rfl)
                  have e64 : ρ (.tmp 64) = vs 0 := by rw [← hρ]; kernel_rfl
                  rw [d64] at e64; clear d64
                  clear hρ hV
                  have c0 := blk_cell (hS.get (i := 0) rfl) 0
                  refine runs_val (v := .int .i32 x.f0) (w' := w) ?_ ⟨Below.refl _ _, rfl⟩
                  clear ht1 ht2 hS hC
                  go_simp
                case z15_1o2 =>
                  intro vs w t hC ht1 ht2 hS hV
                  rw [if_pos (by kernel_rfl)]
                  generalize hρ : rho _ _ _ vs = ρ
                  have e2 : ρ (.tmp 2) = .slice (some adv) r c3 := by rw [← hρ]; kernel_rfl
                  clear hρ hV
                  refine runs_val (v := .slice (some adv) r c3) (w' := w) ?_ ⟨Below.refl _ _, rfl⟩
                  clear ht1 ht2 hS hC
                  go_simp <;> (first | exact IntWalk.u64_in _ (by omega) | exact IntWalk.u32_in _ (by omega) | exact IntWalk.u16_in _ (by omega) | exact IntWalk.u8_in _ (by omega) | exact IntWalk.i64_in _ (by omega) | skip)
                case z15_1o3 =>
                  intro vs w t hC ht1 ht2 hS hV
                  rw [if_pos (by kernel_rfl)]
                  generalize hρ : rho _ _ _ vs = ρ
                  have e14 : ρ (.tmp 14) = .int .i64 k := by rw [← hρ]; kernel_rfl
                  clear hρ hV
                  refine runs_val (v := .int .i64 k) (w' := w) ?_ ⟨Below.refl _ _, rfl⟩
                  clear ht1 ht2 hS hC
                  go_simp <;> (first | exact IntWalk.u64_in _ (by omega) | exact IntWalk.u32_in _ (by omega) | exact IntWalk.u16_in _ (by omega) | exact IntWalk.u8_in _ (by omega) | exact IntWalk.i64_in _ (by omega) | skip)
                case z15_1o4 =>
                  intro vs w t hC ht1 ht2 hS hV
                  rw [if_pos (by kernel_rfl)]
                  generalize hρ : rho _ _ _ vs = ρ
                  have d66 : (vs 2) = .slice (some adv) r c3 := hV 2 (by kernel_rfl)
                  have e66 : ρ (.tmp 66) = vs 2 := by rw [← hρ]; kernel_rfl
                  rw [d66] at e66; clear d66
                  have d67 : (vs 3) = .int .i64 k := hV 3 (by kernel_rfl)
                  have e67 : ρ (.tmp 67) = vs 3 := by rw [← hρ]; kernel_rfl
                  rw [d67] at e67; clear d67
                  clear hρ hV
                  refine runs_val (v := .pointer (some (adv.add k))) (w' := w) ?_ ⟨Below.refl _ _, rfl⟩
                  clear ht1 ht2 hS hC
                  go_simp <;> (first | exact IntWalk.u64_in _ (by omega) | exact IntWalk.u32_in _ (by omega) | exact IntWalk.u16_in _ (by omega) | exact IntWalk.u8_in _ (by omega) | exact IntWalk.i64_in _ (by omega) | skip)
                case z15_1o5 =>
                  intro vs w t hC ht1 ht2 hS hV
                  rw [if_pos (by kernel_rfl)]
                  generalize hρ : rho _ _ _ vs = ρ
                  have d68 : (vs 4) = .pointer (some (adv.add k)) := hV 4 (by kernel_rfl)
                  have e68 : ρ (.tmp 68) = vs 4 := by rw [← hρ]; kernel_rfl
                  rw [d68] at e68; clear d68
                  clear hρ hV
                  have c0 := HVK.out w hC.1
                  refine runs_val (v := .int .i32 vk) (w' := w) ?_ ⟨Below.refl _ _, rfl⟩
                  clear ht1 ht2 hS hC
                  go_simp
                case z15_1o6 =>
                  intro vs w t hC ht1 ht2 hS hV
                  rw [if_pos (by kernel_rfl)]
                  generalize hρ : rho _ _ _ vs = ρ
                  have d65 : (vs 1) = .int .i32 x.f0 := hV 1 (by kernel_rfl)
                  have e65 : ρ (.tmp 65) = vs 1 := by rw [← hρ]; kernel_rfl
                  rw [d65] at e65; clear d65
                  have d69 : (vs 5) = .int .i32 vk := hV 5 (by kernel_rfl)
                  have e69 : ρ (.tmp 69) = vs 5 := by rw [← hρ]; kernel_rfl
                  rw [d69] at e69; clear d69
                  clear hρ hV
                  refine runs_val (v := .int .i32 (IntKind.i32.wrap (x.f0 + vk))) (w' := w) ?_ ⟨Below.refl _ _, rfl⟩
                  clear ht1 ht2 hS hC
                  go_simp <;> (first | exact IntWalk.u64_in _ (by omega) | exact IntWalk.u32_in _ (by omega) | exact IntWalk.u16_in _ (by omega) | exact IntWalk.u8_in _ (by omega) | exact IntWalk.i64_in _ (by omega) | skip)
                case z15_1o7 =>
                  intro vs w t hC ht1 ht2 hS hV
                  rw [if_pos (by kernel_rfl)]
                  generalize hρ : rho _ _ _ vs = ρ
                  have e15 : ρ (.tmp 15) = .pointer (some ⟨gc, 0, none⟩) := by rw [← hρ]; kernel_rfl
                  clear hρ hV
                  refine runs_val (v := .pointer (some ⟨gc, 0, none⟩)) (w' := w) ?_ ⟨Below.refl _ _, rfl⟩
                  clear ht1 ht2 hS hC
                  go_simp <;> (first | exact IntWalk.u64_in _ (by omega) | exact IntWalk.u32_in _ (by omega) | exact IntWalk.u16_in _ (by omega) | exact IntWalk.u8_in _ (by omega) | exact IntWalk.i64_in _ (by omega) | skip)
                case z15_1o8 =>
                  intro vs w hC hS hV
                  replace hS : Hp B w00 w [(gc, .cells #[.int .i32 x.f0, .int .u32 x.f1] 30 (0, 0)), (gv, .cells (boardC (viewF F0 m o) m) 34 (0, 0)), (ga, .cells (boardC F m) 34 (0, 0))] [] := hS
                  rw [if_pos (by kernel_rfl)]
                  generalize hρ : rho _ _ _ vs = ρ
                  have d71 : (vs 7) = .pointer (some ⟨gc, 0, none⟩) := hV 7 (by kernel_rfl)
                  have e71 : ρ (.tmp 71) = vs 7 := by rw [← hρ]; kernel_rfl
                  rw [d71] at e71; clear d71
                  have d70 : (vs 6) = .int .i32 (IntKind.i32.wrap (x.f0 + vk)) := hV 6 (by kernel_rfl)
                  have e70 : ρ (.tmp 70) = vs 6 := by rw [← hρ]; kernel_rfl
                  rw [d70] at e70; clear d70
                  clear hρ hV
                  have f0' := blk_frozen (hS.get (i := 0) rfl) 0
                  have c0 := blk_cell (hS.get (i := 0) rfl) 0
                  have hS2 := hS.setCell (i := 0) rfl 0 (.int .i32 (IntKind.i32.wrap (x.f0 + vk)))
                  refine runs_skip (w' := w.setCell ⟨gc, 0, none⟩ (.int .i32 (IntKind.i32.wrap (x.f0 + vk)))) ?_ ⟨⟨hS2.bel, hS2.le⟩, trivial, trivial, hS2⟩
                  clear hS hS2 hC
                  go_simp
                case z15_1e =>
                  intro vs z3 hC hS hV
                  replace hS : (fun (w : World) => Hp B w00 w [(gc, .cells #[.int .i32 (IntKind.i32.wrap (x.f0 + vk)), .int .u32 x.f1] 30 (0, 0)), (gv, .cells (boardC (viewF F0 m o) m) 34 (0, 0)), (ga, .cells (boardC F m) 34 (0, 0))] []) z3 := hS
                  have d64 : (vs 0) = .pointer (some ⟨gc, 0, none⟩) := hV 0 (Nat.le_of_ble_eq_true rfl)
                  have d65 : (vs 1) = .int .i32 x.f0 := hV 1 (Nat.le_of_ble_eq_true rfl)
                  have d66 : (vs 2) = .slice (some adv) r c3 := hV 2 (Nat.le_of_ble_eq_true rfl)
                  have d67 : (vs 3) = .int .i64 k := hV 3 (Nat.le_of_ble_eq_true rfl)
                  have d68 : (vs 4) = .pointer (some (adv.add k)) := hV 4 (Nat.le_of_ble_eq_true rfl)
                  have d69 : (vs 5) = .int .i32 vk := hV 5 (Nat.le_of_ble_eq_true rfl)
                  have d70 : (vs 6) = .int .i32 (IntKind.i32.wrap (x.f0 + vk)) := hV 6 (Nat.le_of_ble_eq_true rfl)
                  have d71 : (vs 7) = .pointer (some ⟨gc, 0, none⟩) := hV 7 (Nat.le_of_ble_eq_true rfl)
                  clear hV
                  simp only [putAll]
                  rw [d64, d65, d66, d67, d68, d69, d70, d71]
                  clear d64 d65 d66 d67 d68 d69 d70 d71
                  generalize vs 8 = vN8
                  clear vs
                  simp only [Act.put, List.setIfInBounds_toArray, List.set_cons_zero, List.set_cons_succ]
                  have H3 := Aside0.mk hS
                  clear hS hC H2
                  obtain ⟨y0, hy0⟩ : ∃ y0, IntKind.i32.wrap (x.f0 + vk) = y0 := ⟨_, rfl⟩
                  rw [hy0] at H3
                  try rw [hy0]
                  clear hy0
                  go_wp2_with fail
                  obtain ⟨i8, hi8⟩ : ∃ i8 : Nat, i % 8 = i8 := ⟨_, rfl⟩
                  have q8 : (i : Int).tmod 8 = (i8 : Int) := by rw [Int.tmod_eq_emod_of_nonneg hi0, ← hi8]; omega
                  have HQ8 := Aside0.mk q8
                  obtain ⟨sh, hsh⟩ : ∃ sh, IntKind.u32.wrap (2 ^ min i8 32) = sh := ⟨_, rfl⟩
                  have HSH := Aside0.mk hsh
                  have hi80 : (0 : Int) ≤ i8 := by omega
                  clear q8 hi8 hsh
                  refine regionS (W := z3)
                    [fun _ v => v = .pointer (some ⟨gc, 1, none⟩),
                     fun _ v => v = .int .u32 x.f1,
                     fun _ v => v = .int .i64 i,
                     fun _ v => v = .int .i64 i8,
                     fun _ v => v = .int .u32 sh,
                     fun _ v => v = .int .u32 (bits .xor .u32 x.f1 sh),
                     fun _ v => v = .pointer (some ⟨gc, 1, none⟩),
                     fun _ _ => True]
                    [7]
                    (fun t => match t with | 0 => fun (rs : List Value) (w : World) => Hp B w00 w [(gc, .cells #[.int .i32 y0, .int .u32 x.f1] 30 (0, 0)), (gv, .cells (boardC (viewF F0 m o) m) 34 (0, 0)), (ga, .cells (boardC F m) 34 (0, 0))] [] | 1 => fun (rs : List Value) (w : World) => Hp B w00 w [(gc, .cells #[.int .i32 y0, .int .u32 (bits .xor .u32 x.f1 sh)] 30 (0, 0)), (gv, .cells (boardC (viewF F0 m o) m) 34 (0, 0)), (ga, .cells (boardC F m) 34 (0, 0))] [] | _ => fun _ _ => False)
                    (fun _ _ _ => True) (fun w => Below B w00 w ∧ B ≤ w.heap.size)
                    (fun j =>  none)
                    [(0, some 72), (1, some 73), (2, some 74), (3, some 75), (4, some 76), (5, some 77), (6, some 78), (7, none)]
                    []
                    (by kernel_rfl) (by kernel_rfl) (by kernel_rfl) (by kernel_rfl) (by kernel_rfl) ?z16_2c ?z16_2i ?z16_2b ?z16_2d ?z16_2g ⟨?z16_2t0, ?z16_2t1, ?z16_2t2, ?z16_2t3, ?z16_2t4, ?z16_2t5, ?z16_2t6, ?z16_2t7, trivial⟩ ⟨?z16_2o0, ?z16_2o1, ?z16_2o2, ?z16_2o3, ?z16_2o4, ?z16_2o5, ?z16_2o6, ?z16_2o7, trivial⟩ ?z16_2e
                  case z16_2c => exact ⟨H3.out.drew.bel, H3.out.drew.le⟩
                  case z16_2i => exact H3.out.drew
                  case z16_2b => intro w w' hb h; exact ⟨h.1.trans (hb.mono h.2), Nat.le_trans h.2 hb.size⟩
                  case z16_2d =>
                    intro t rs w w' hb h
                    match t, h with
                    | 0, h => (replace h : Hp B w00 w [(gc, .cells #[.int .i32 y0, .int .u32 x.f1] 30 (0, 0)), (gv, .cells (boardC (viewF F0 m o) m) 34 (0, 0)), (ga, .cells (boardC F m) 34 (0, 0))] [] := h); show Hp B w00 w' [(gc, .cells #[.int .i32 y0, .int .u32 x.f1] 30 (0, 0)), (gv, .cells (boardC (viewF F0 m o) m) 34 (0, 0)), (ga, .cells (boardC F m) 34 (0, 0))] []; exact h.call hb
                    | 1, h => (replace h : Hp B w00 w [(gc, .cells #[.int .i32 y0, .int .u32 (bits .xor .u32 x.f1 sh)] 30 (0, 0)), (gv, .cells (boardC (viewF F0 m o) m) 34 (0, 0)), (ga, .cells (boardC F m) 34 (0, 0))] [] := h); show Hp B w00 w' [(gc, .cells #[.int .i32 y0, .int .u32 (bits .xor .u32 x.f1 sh)] 30 (0, 0)), (gv, .cells (boardC (viewF F0 m o) m) 34 (0, 0)), (ga, .cells (boardC F m) 34 (0, 0))] []; exact h.call hb
                    | _ + 2, h => exact h.elim
                  case z16_2g =>
                    intro j hj; cases hj
                  case z16_2t0 => exact StabS.const _ _ _ _
                  case z16_2t1 => exact StabS.const _ _ _ _
                  case z16_2t2 => exact StabS.const _ _ _ _
                  case z16_2t3 => exact StabS.const _ _ _ _
                  case z16_2t4 => exact StabS.const _ _ _ _
                  case z16_2t5 => exact StabS.const _ _ _ _
                  case z16_2t6 => exact StabS.const _ _ _ _
                  case z16_2t7 => exact StabS.const _ _ _ _
                  case z16_2o0 =>
                    intro vs w t hC ht1 ht2 hS hV
                    rw [if_pos (by kernel_rfl)]
                    generalize hρ : rho _ _ _ vs = ρ
                    have e15 : ρ (.tmp 15) = .pointer (some ⟨gc, 0, none⟩) := by rw [← hρ]; kernel_rfl
                    clear hρ hV
                    refine runs_val (v := .pointer (some ⟨gc, 1, none⟩)) (w' := w) ?_ ⟨Below.refl _ _, rfl⟩
                    clear ht1 ht2 hS hC
                    go_simp <;> (first | exact IntWalk.u64_in _ (by omega) | exact IntWalk.u32_in _ (by omega) | exact IntWalk.u16_in _ (by omega) | exact IntWalk.u8_in _ (by omega) | exact IntWalk.i64_in _ (by omega) | skip)
                  case z16_2o1 =>
                    intro vs w t hC ht1 ht2 hS hV
                    have ht0 : t ≤ 0 := by
                      rcases Nat.lt_or_ge 0 t with hq | hq
                      · exact absurd (ht1 0 7 _ hq rfl rfl) (by decide +kernel)
                      · exact hq
                    obtain rfl : t = 0 := by omega
                    replace hS : Hp B w00 w [(gc, .cells #[.int .i32 y0, .int .u32 x.f1] 30 (0, 0)), (gv, .cells (boardC (viewF F0 m o) m) 34 (0, 0)), (ga, .cells (boardC F m) 34 (0, 0))] [] := hS
                    rw [if_pos (by kernel_rfl)]
                    generalize hρ : rho _ _ _ vs = ρ
                    have d72 : (vs 0) = .pointer (some ⟨gc, 1, none⟩) := hV 0 (by kernel_rfl)
                    have e72 : ρ (.tmp 72) = vs 0 := by rw [← hρ]; kernel_rfl
                    rw [d72] at e72; clear d72
                    clear hρ hV
                    have c0 := blk_cell (hS.get (i := 0) rfl) 1
                    refine runs_val (v := .int .u32 x.f1) (w' := w) ?_ ⟨Below.refl _ _, rfl⟩
                    clear ht1 ht2 hS hC
                    go_simp
                  case z16_2o2 =>
                    intro vs w t hC ht1 ht2 hS hV
                    rw [if_pos (by kernel_rfl)]
                    generalize hρ : rho _ _ _ vs = ρ
                    have e12 : ρ (.tmp 12) = .int .i64 i := by rw [← hρ]; kernel_rfl
                    clear hρ hV
                    refine runs_val (v := .int .i64 i) (w' := w) ?_ ⟨Below.refl _ _, rfl⟩
                    clear ht1 ht2 hS hC
                    go_simp <;> (first | exact IntWalk.u64_in _ (by omega) | exact IntWalk.u32_in _ (by omega) | exact IntWalk.u16_in _ (by omega) | exact IntWalk.u8_in _ (by omega) | exact IntWalk.i64_in _ (by omega) | skip)
                  case z16_2o3 =>
                    intro vs w t hC ht1 ht2 hS hV
                    rw [if_pos (by kernel_rfl)]
                    generalize hρ : rho _ _ _ vs = ρ
                    have d74 : (vs 2) = .int .i64 i := hV 2 (by kernel_rfl)
                    have e74 : ρ (.tmp 74) = vs 2 := by rw [← hρ]; kernel_rfl
                    rw [d74] at e74; clear d74
                    have econ : ∀ v : Value, ρ (.const v) = v := fun v => by rw [← hρ]; rfl
                    clear hρ hV
                    have q8 := HQ8.out
                    refine runs_val (v := .int .i64 i8) (w' := w) ?_ ⟨Below.refl _ _, rfl⟩
                    clear ht1 ht2 hS hC
                    go_simp
                  case z16_2o4 =>
                    intro vs w t hC ht1 ht2 hS hV
                    rw [if_pos (by kernel_rfl)]
                    generalize hρ : rho _ _ _ vs = ρ
                    have d75 : (vs 3) = .int .i64 i8 := hV 3 (by kernel_rfl)
                    have e75 : ρ (.tmp 75) = vs 3 := by rw [← hρ]; kernel_rfl
                    rw [d75] at e75; clear d75
                    have econ : ∀ v : Value, ρ (.const v) = v := fun v => by rw [← hρ]; rfl
                    clear hρ hV
                    have q8 := HSH.out
                    refine runs_val (v := .int .u32 sh) (w' := w) ?_ ⟨Below.refl _ _, rfl⟩
                    clear ht1 ht2 hS hC
                    go_simp
                  case z16_2o5 =>
                    intro vs w t hC ht1 ht2 hS hV
                    rw [if_pos (by kernel_rfl)]
                    generalize hρ : rho _ _ _ vs = ρ
                    have d73 : (vs 1) = .int .u32 x.f1 := hV 1 (by kernel_rfl)
                    have e73 : ρ (.tmp 73) = vs 1 := by rw [← hρ]; kernel_rfl
                    rw [d73] at e73; clear d73
                    have d76 : (vs 4) = .int .u32 sh := hV 4 (by kernel_rfl)
                    have e76 : ρ (.tmp 76) = vs 4 := by rw [← hρ]; kernel_rfl
                    rw [d76] at e76; clear d76
                    clear hρ hV
                    refine runs_val (v := .int .u32 (bits .xor .u32 x.f1 sh)) (w' := w) ?_ ⟨Below.refl _ _, rfl⟩
                    clear ht1 ht2 hS hC
                    go_simp <;> (first | exact IntWalk.u64_in _ (by omega) | exact IntWalk.u32_in _ (by omega) | exact IntWalk.u16_in _ (by omega) | exact IntWalk.u8_in _ (by omega) | exact IntWalk.i64_in _ (by omega) | skip)
                  case z16_2o6 =>
                    intro vs w t hC ht1 ht2 hS hV
                    rw [if_pos (by kernel_rfl)]
                    generalize hρ : rho _ _ _ vs = ρ
                    have e15 : ρ (.tmp 15) = .pointer (some ⟨gc, 0, none⟩) := by rw [← hρ]; kernel_rfl
                    clear hρ hV
                    refine runs_val (v := .pointer (some ⟨gc, 1, none⟩)) (w' := w) ?_ ⟨Below.refl _ _, rfl⟩
                    clear ht1 ht2 hS hC
                    go_simp <;> (first | exact IntWalk.u64_in _ (by omega) | exact IntWalk.u32_in _ (by omega) | exact IntWalk.u16_in _ (by omega) | exact IntWalk.u8_in _ (by omega) | exact IntWalk.i64_in _ (by omega) | skip)
                  case z16_2o7 =>
                    intro vs w hC hS hV
                    replace hS : Hp B w00 w [(gc, .cells #[.int .i32 y0, .int .u32 x.f1] 30 (0, 0)), (gv, .cells (boardC (viewF F0 m o) m) 34 (0, 0)), (ga, .cells (boardC F m) 34 (0, 0))] [] := hS
                    rw [if_pos (by kernel_rfl)]
                    generalize hρ : rho _ _ _ vs = ρ
                    have d78 : (vs 6) = .pointer (some ⟨gc, 1, none⟩) := hV 6 (by kernel_rfl)
                    have e78 : ρ (.tmp 78) = vs 6 := by rw [← hρ]; kernel_rfl
                    rw [d78] at e78; clear d78
                    have d77 : (vs 5) = .int .u32 (bits .xor .u32 x.f1 sh) := hV 5 (by kernel_rfl)
                    have e77 : ρ (.tmp 77) = vs 5 := by rw [← hρ]; kernel_rfl
                    rw [d77] at e77; clear d77
                    clear hρ hV
                    have f0' := blk_frozen (hS.get (i := 0) rfl) 1
                    have c0 := blk_cell (hS.get (i := 0) rfl) 1
                    have hS2 := hS.setCell (i := 0) rfl 1 (.int .u32 (bits .xor .u32 x.f1 sh))
                    refine runs_skip (w' := w.setCell ⟨gc, 1, none⟩ (.int .u32 (bits .xor .u32 x.f1 sh))) ?_ ⟨⟨hS2.bel, hS2.le⟩, trivial, trivial, hS2⟩
                    clear hS hS2 hC
                    go_simp
                  case z16_2e =>
                    intro vs z4 hC hS hV
                    replace hS : (fun (w : World) => Hp B w00 w [(gc, .cells #[.int .i32 y0, .int .u32 (bits .xor .u32 x.f1 sh)] 30 (0, 0)), (gv, .cells (boardC (viewF F0 m o) m) 34 (0, 0)), (ga, .cells (boardC F m) 34 (0, 0))] []) z4 := hS
                    have d72 : (vs 0) = .pointer (some ⟨gc, 1, none⟩) := hV 0 (Nat.le_of_ble_eq_true rfl)
                    have d73 : (vs 1) = .int .u32 x.f1 := hV 1 (Nat.le_of_ble_eq_true rfl)
                    have d74 : (vs 2) = .int .i64 i := hV 2 (Nat.le_of_ble_eq_true rfl)
                    have d75 : (vs 3) = .int .i64 i8 := hV 3 (Nat.le_of_ble_eq_true rfl)
                    have d76 : (vs 4) = .int .u32 sh := hV 4 (Nat.le_of_ble_eq_true rfl)
                    have d77 : (vs 5) = .int .u32 (bits .xor .u32 x.f1 sh) := hV 5 (Nat.le_of_ble_eq_true rfl)
                    have d78 : (vs 6) = .pointer (some ⟨gc, 1, none⟩) := hV 6 (Nat.le_of_ble_eq_true rfl)
                    clear hV
                    simp only [putAll]
                    rw [d72, d73, d74, d75, d76, d77, d78]
                    clear d72 d73 d74 d75 d76 d77 d78
                    generalize vs 7 = vN7
                    clear vs
                    simp only [Act.put, List.setIfInBounds_toArray, List.set_cons_zero, List.set_cons_succ]
                    have H4 := Aside0.mk hS
                    clear hS hC H3
                    obtain ⟨y1, hy1⟩ : ∃ y1, bits .xor .u32 x.f1 sh = y1 := ⟨_, rfl⟩
                    have HY1 : Aside0 (U32 y1) := ⟨by rw [← hy1]; exact bits_u32 _ _ _⟩
                    rw [hy1] at H4
                    try rw [hy1]
                    clear hy1
                    have c0 := blk_cell (H4.out.get (i := 0) rfl) 0
                    have c1 := blk_cell (H4.out.get (i := 0) rfl) 1
                    go_wp2_with (first | (refine wpList_load_row_g 34 (.tmp 9) rfl (ga) rfl rfl 34 _ (0, 0) _ (H4.out.get (i := 2) rfl) Try.underlying34 rfl (HI _ _).out ?_))
                    refine (put_any F m k ⟨y0, y1⟩ _ hlk H48.out).mono ?_
                    rintro e z5 ⟨rfl, hb5⟩
                    have H5 := Aside0.mk (H4.out.call hb5)
                    clear hb5 H4 c0 c1
                    go_wp2_with (first | (refine wpList_store_row rfl 34 (.tmp 9) (.tmp 84) rfl (ga) (boardC (putF F k ⟨y0, y1⟩) m) rfl rfl 34 _ (H5.out.get (i := 2) rfl) (HI _ _).out (by rw [boardC_size, boardC_size]) (HO _ _).out ?_))
                    have H6 := Aside0.mk (H5.out.setRow (i := 2) rfl (boardC (putF F k ⟨y0, y1⟩) m)).rest
                    clear H5
                    go_roundw
                    case rel => exact ⟨k + 1, by omega, by go_num, putF F k ⟨y0, y1⟩, ⟨H6.out, fun j hj => by
                      unfold putF
                      split
                      · exact HY1.out
                      · exact HU1.out.1 j hj, fun j hj => by
                      unfold putF
                      rw [if_neg (by omega)]
                      exact HU1.out.2.1 j hj, fun j hj hb => by
                      unfold putF
                      rw [if_neg (fun e => by subst e; rw [HBT.out] at hb; cases hb)]
                      exact HU1.out.2.2 j hj hb⟩⟩
                    case measure => simp [intOf]; omega
              · have d4 : decide (k < r) = false := decide_eq_false hkr
                have hkr' : ¬ (k : Int) < r := by omega
                go_wp2_with fail
                go_roundw
                case rel => exact ⟨k + 1, by omega, by go_num, F, H⟩
                case measure => simp [intOf]; omega
          · obtain rfl : k = m := by omega
            have d3 : decide (k < k) = false := decide_eq_false (by omega)
            have HUF := Aside0.mk H.out.2
            have H1 := Aside0.mk H.out.1
            clear H hlk hk
            obtain ⟨V0, hV0⟩ : ∃ V0, viewF F0 k o = V0 := ⟨_, rfl⟩
            obtain ⟨V1, hV1⟩ : ∃ V1, viewF F k o = V1 := ⟨_, rfl⟩
            rw [hV0] at H1
            have hUV1 : ∀ j, j < k → U32 (V1 j).f1 := fun j hj => by rw [← hV1, view_f1]; exact HUF.out.1 j hj
            have hUV0 : ∀ j, j < k → U32 (V0 j).f1 := fun j hj => by rw [← hV0, view_f1]; exact HUO.out.1 j hj
            have hap : putsF V0 (plL t k) (clL V1 t k) (plL t k).length = V1 := apply_of (fun j hj hb => by rw [← hV0, ← hV1, view_is _ _ _ _ hj, view_is _ _ _ _ hj, HUF.out.2.2 j hj hb]) (fun j hj => by rw [← hV0, ← hV1, view_out _ _ _ _ hj, view_out _ _ _ _ hj, HUF.out.2.1 j hj, HUO.out.2 j hj])
            obtain ⟨hs, hhs⟩ : ∃ hs, sumB true (listF V1 k) = hs := ⟨_, rfl⟩
            have KO : Aside0 (∀ X : World, Calls Try.prog 13 #[.agg (boardC F k), .int .u64 t, .int .i64 o, .int .u32 i] X fun e w' => ∃ v, e = .returned v ∧ OfR X.heap.size w' i hs (plL t k) (clL V1 t k) v ∧ Below X.heap.size X w') := ⟨fun X => by have h1 := of_full F k t o i X H48.out HT.out HUF.out.1; rw [hV1, hhs] at h1; exact h1⟩
            have KA : Aside0 (∀ (X : World) (v : Value), DvC X i hs (plL t k) (clL V1 t k) v → Calls Try.prog 19 #[v, .agg (boardC V0 k)] X fun e w' => e = .returned (.tuple #[.agg (boardC V1 k), .int .i64 0]) ∧ Below X.heap.size X w') := ⟨fun X v hv => by
              have h1 := apply_any V0 k i hs (plL t k) (clL V1 t k) v true X hv H48.out (plcl_len V1 t k) (by have := plL_len t k; have := H48.out; omega) plL_lt hUV0 (clL_u32 hUV1) (by rw [hap, hhs]; simp)
              rw [hap] at h1
              exact h1⟩
            have IX : Aside0 (IntKind.u32.wrap (i : Int) = (i : Int)) := ⟨IntWalk.u32_in _ (by omega)⟩
            generalize plL t k = P1 at *
            generalize clL V1 t k = C1 at *
            have HV1 := Aside0.mk hV1
            have hbn := board_neq7 V1 V1 k k
            rw [sameB_refl] at hbn
            have HBN := Aside0.mk (And.intro hbn board_guard)
            clear hV0 hV1 hUV0 hUV1 hap hhs hbn
            go_wp2_with fail
            refine region_fill (W := wr) 11 12 (boardC (fun _ => z30) 0) (boardC V1 k) 34
              [fun (w : World) (v : Value) => v = .agg (boardC F k),
               fun (w : World) (v : Value) => v = .int .u64 t,
               fun (w : World) (v : Value) => v = .int .i64 o,
               fun (w : World) (v : Value) => v = .int .i64 i,
               fun (w : World) (v : Value) => v = .int .u32 i,
               fun (w : World) (v : Value) => OfR wr.heap.size w i hs P1 C1 v,
               fun (w : World) (v : Value) => v = .agg (boardC V0 k),
               fun (w : World) (v : Value) => v = .tuple #[.agg (boardC V1 k), .int .i64 0],
               fun (w : World) (v : Value) => v = .tuple #[.agg (boardC V1 k), .int .i64 0],
               fun (w : World) (v : Value) => v = .agg (boardC V1 k),
               fun (w : World) (v : Value) => v = .int .i64 0,
               fun (w : World) (v : Value) => Made wr.heap.size (.cells (boardC (fun _ => z30) 0) 34 (0, 0)) (.cells (boardC V1 k) 34 (0, 0)) w v,
               fun (w : World) (v : Value) => True,
               fun (w : World) (v : Value) => v = .int .i64 0]
              (fun j =>  none)
              [(0, some 88), (1, some 89), (2, some 90), (3, some 91), (4, some 92), (5, some 93), (6, some 94), (7, some 95), (8, some 87), (9, some 96), (10, some 97), (11, some 17), (12, none), (13, some 18)]
              []
              (by kernel_rfl) (by kernel_rfl) (by kernel_rfl) (by kernel_rfl) (by kernel_rfl) ?r19_3z rfl rfl ?r19_3g ?r19_3s ⟨?r19_3o0, ?r19_3o1, ?r19_3o2, ?r19_3o3, ?r19_3o4, ?r19_3o5, ?r19_3o6, ?r19_3o7, ?r19_3o8, ?r19_3o9, ?r19_3o10, ?r19_3o11, ?r19_3o12, ?r19_3o13, trivial⟩ ?r19_3e
            case r19_3z => first | (rw [boardC_size, boardC_size]) | rfl
            case r19_3g =>
              intro j hj; cases hj
            case r19_3s =>
              refine ⟨(fun w w' v hb h => h), (fun w w' v hb h => h), (fun w w' v hb h => h), (fun w w' v hb h => h), (fun w w' v hb h => h), (fun w w' v hb h => h.fills hb), (fun w w' v hb h => h), (fun w w' v hb h => h), (fun w w' v hb h => h), (fun w w' v hb h => h), (fun w w' v hb h => h), (fun w w' v hb h => Made.stab w w' v hb h), (fun w w' v hb h => trivial), (fun w w' v hb h => h), trivial⟩
            case r19_3o0 =>
              intro vs w hb hV
              rw [if_neg (by decide)]
              rw [if_pos (by kernel_rfl)]
              generalize hρ : rho _ _ _ vs = ρ
              have e9 : ρ (.tmp 9) = .pointer (some ⟨ga, 0, none⟩) := by rw [← hρ]; kernel_rfl
              clear hρ hV
              exact runs_load 34 (.tmp 9) rfl ga e9 34 (boardC F k) (0, 0) _ (((hb.block ga (blk_lt (H1.out.get (i := 1) rfl))).trans (H1.out.get (i := 1) rfl))) Try.underlying34 rfl (HI _ _).out ⟨Below.refl _ _, rfl⟩
            case r19_3o1 =>
              intro vs w hb hV
              rw [if_neg (by decide)]
              rw [if_pos (by kernel_rfl)]
              generalize hρ : rho _ _ _ vs = ρ
              have e13 : ρ (.tmp 13) = .int .u64 t := by rw [← hρ]; kernel_rfl
              clear hρ hV
              refine runs_val (v := .int .u64 t) (w' := w) ?_ ⟨Below.refl _ _, rfl⟩
              go_simp <;> (first | exact IntWalk.u64_in _ (by omega) | exact IntWalk.u32_in _ (by omega) | exact IntWalk.u16_in _ (by omega) | exact IntWalk.u8_in _ (by omega) | exact IntWalk.i64_in _ (by omega) | skip)
            case r19_3o2 =>
              intro vs w hb hV
              rw [if_neg (by decide)]
              rw [if_pos (by kernel_rfl)]
              generalize hρ : rho _ _ _ vs = ρ
              have e3 : ρ (.tmp 3) = .int .i64 o := by rw [← hρ]; kernel_rfl
              clear hρ hV
              refine runs_val (v := .int .i64 o) (w' := w) ?_ ⟨Below.refl _ _, rfl⟩
              go_simp <;> (first | exact IntWalk.u64_in _ (by omega) | exact IntWalk.u32_in _ (by omega) | exact IntWalk.u16_in _ (by omega) | exact IntWalk.u8_in _ (by omega) | exact IntWalk.i64_in _ (by omega) | skip)
            case r19_3o3 =>
              intro vs w hb hV
              rw [if_neg (by decide)]
              rw [if_pos (by kernel_rfl)]
              generalize hρ : rho _ _ _ vs = ρ
              have e12 : ρ (.tmp 12) = .int .i64 i := by rw [← hρ]; kernel_rfl
              clear hρ hV
              refine runs_val (v := .int .i64 i) (w' := w) ?_ ⟨Below.refl _ _, rfl⟩
              go_simp <;> (first | exact IntWalk.u64_in _ (by omega) | exact IntWalk.u32_in _ (by omega) | exact IntWalk.u16_in _ (by omega) | exact IntWalk.u8_in _ (by omega) | exact IntWalk.i64_in _ (by omega) | skip)
            case r19_3o4 =>
              intro vs w hb hV
              rw [if_neg (by decide)]
              rw [if_pos (by kernel_rfl)]
              generalize hρ : rho _ _ _ vs = ρ
              have d91 : (vs 3) = .int .i64 i := hV 3 (by kernel_rfl)
              have e91 : ρ (.tmp 91) = vs 3 := by rw [← hρ]; kernel_rfl
              rw [d91] at e91; clear d91
              clear hρ hV
              have ix := IX.out
              refine runs_val (v := .int .u32 i) (w' := w) ?_ ⟨Below.refl _ _, rfl⟩
              go_simp
            case r19_3o5 =>
              intro vs w hb hV
              rw [if_neg (by decide)]
              rw [if_pos (by kernel_rfl)]
              generalize hρ : rho _ _ _ vs = ρ
              have d88 : (vs 0) = .agg (boardC F k) := hV 0 (by kernel_rfl)
              have e88 : ρ (.tmp 88) = vs 0 := by rw [← hρ]; kernel_rfl
              rw [d88] at e88; clear d88
              have d89 : (vs 1) = .int .u64 t := hV 1 (by kernel_rfl)
              have e89 : ρ (.tmp 89) = vs 1 := by rw [← hρ]; kernel_rfl
              rw [d89] at e89; clear d89
              have d90 : (vs 2) = .int .i64 o := hV 2 (by kernel_rfl)
              have e90 : ρ (.tmp 90) = vs 2 := by rw [← hρ]; kernel_rfl
              rw [d90] at e90; clear d90
              have d92 : (vs 4) = .int .u32 i := hV 4 (by kernel_rfl)
              have e92 : ρ (.tmp 92) = vs 4 := by rw [← hρ]; kernel_rfl
              rw [d92] at e92; clear d92
              have ef13 : ρ (.func 13) = .func (.func 13) #[] #[] := by rw [← hρ]; rfl
              clear hρ hV
              refine runs_call (f := 13) (args := #[.agg (boardC F k), .int .u64 t, .int .i64 o, .int .u32 i]) (w' := w) ?_ ?_
              · go_simp
              · refine (KO.out _).mono ?_
                rintro e w5 ⟨v, rfl, hv, hb5⟩
                exact ⟨_, rfl, hb5, hv.lower hb.size⟩
            case r19_3o6 =>
              intro vs w hb hV
              rw [if_neg (by decide)]
              rw [if_pos (by kernel_rfl)]
              generalize hρ : rho _ _ _ vs = ρ
              have e11 : ρ (.tmp 11) = .pointer (some ⟨gv, 0, none⟩) := by rw [← hρ]; kernel_rfl
              clear hρ hV
              exact runs_load 34 (.tmp 11) rfl gv e11 34 (boardC V0 k) (0, 0) _ (((hb.block gv (blk_lt (H1.out.get (i := 0) rfl))).trans (H1.out.get (i := 0) rfl))) Try.underlying34 rfl (HI _ _).out ⟨Below.refl _ _, rfl⟩
            case r19_3o7 =>
              intro vs w hb hV
              rw [if_neg (by decide)]
              rw [if_pos (by kernel_rfl)]
              generalize hρ : rho _ _ _ vs = ρ
              have d93 : (fun (w : World) (v : Value) => OfR wr.heap.size w i hs P1 C1 v) w (vs 5) := hV 5 (by kernel_rfl)
              have e93 : ρ (.tmp 93) = vs 5 := by rw [← hρ]; kernel_rfl
              have d94 : (vs 6) = .agg (boardC V0 k) := hV 6 (by kernel_rfl)
              have e94 : ρ (.tmp 94) = vs 6 := by rw [← hρ]; kernel_rfl
              rw [d94] at e94; clear d94
              have ef19 : ρ (.func 19) = .func (.func 19) #[] #[] := by rw [← hρ]; rfl
              clear hρ hV
              refine runs_call (f := 19) (args := #[vs 5, .agg (boardC V0 k)]) (w' := w) ?_ ?_
              · go_simp
              · refine (KA.out w _ d93.cells).mono ?_
                rintro e w5 ⟨rfl, hb5⟩
                exact ⟨_, rfl, hb5, rfl⟩
            case r19_3o8 =>
              intro vs w hb hV
              rw [if_neg (by decide)]
              rw [if_pos (by kernel_rfl)]
              generalize hρ : rho _ _ _ vs = ρ
              have d95 : (vs 7) = .tuple #[.agg (boardC V1 k), .int .i64 0] := hV 7 (by kernel_rfl)
              have e95 : ρ (.tmp 95) = vs 7 := by rw [← hρ]; kernel_rfl
              clear hρ hV
              refine runs_val (v := vs 7) (w' := w) ?_ ⟨Below.refl _ _, d95⟩
              go_simp
            case r19_3o9 =>
              intro vs w hb hV
              rw [if_neg (by decide)]
              rw [if_pos (by kernel_rfl)]
              generalize hρ : rho _ _ _ vs = ρ
              have d87 : (vs 8) = .tuple #[.agg (boardC V1 k), .int .i64 0] := hV 8 (by kernel_rfl)
              have e87 : ρ (.tmp 87) = vs 8 := by rw [← hρ]; kernel_rfl
              rw [d87] at e87; clear d87
              clear hρ hV
              refine runs_val (v := .agg (boardC V1 k)) (w' := w) ?_ ⟨Below.refl _ _, rfl⟩
              go_simp <;> (first | exact IntWalk.u64_in _ (by omega) | exact IntWalk.u32_in _ (by omega) | exact IntWalk.u16_in _ (by omega) | exact IntWalk.u8_in _ (by omega) | exact IntWalk.i64_in _ (by omega) | skip)
            case r19_3o10 =>
              intro vs w hb hV
              rw [if_neg (by decide)]
              rw [if_pos (by kernel_rfl)]
              generalize hρ : rho _ _ _ vs = ρ
              have d87 : (vs 8) = .tuple #[.agg (boardC V1 k), .int .i64 0] := hV 8 (by kernel_rfl)
              have e87 : ρ (.tmp 87) = vs 8 := by rw [← hρ]; kernel_rfl
              rw [d87] at e87; clear d87
              clear hρ hV
              refine runs_val (v := .int .i64 0) (w' := w) ?_ ⟨Below.refl _ _, rfl⟩
              go_simp <;> (first | exact IntWalk.u64_in _ (by omega) | exact IntWalk.u32_in _ (by omega) | exact IntWalk.u16_in _ (by omega) | exact IntWalk.u8_in _ (by omega) | exact IntWalk.i64_in _ (by omega) | skip)
            case r19_3o11 =>
              intro vs w hb hV
              rw [if_neg (by decide)]
              rw [if_pos (by kernel_rfl)]
              generalize hρ : rho _ _ _ vs = ρ
              clear hρ hV
              refine runs_val (v := .pointer (some ⟨w.heap.size, 0, none⟩)) (w' := w.alloc (.cells (boardC (fun _ => z30) 0) 34)) ?_ ⟨below_alloc (Below.refl _ _) _, w.heap.size, rfl, hb.size, .inl (blk_new _ _)⟩
              go_simp
            case r19_3o12 =>
              intro vs w hb hV
              rw [if_pos rfl]
              intro g cur hg0 hcur hcsz
              generalize hρ : rho _ _ _ vs = ρ
              have d17 : (fun (w : World) (v : Value) => Made wr.heap.size (.cells (boardC (fun _ => z30) 0) 34 (0, 0)) (.cells (boardC V1 k) 34 (0, 0)) w v) w (vs 11) := hV 11 (by kernel_rfl)
              have e17 : ρ (.tmp 17) = vs 11 := by rw [← hρ]; kernel_rfl
              rw [hg0] at e17; clear d17
              have d96 : (vs 9) = .agg (boardC V1 k) := hV 9 (by kernel_rfl)
              have e96 : ρ (.tmp 96) = vs 9 := by rw [← hρ]; kernel_rfl
              rw [d96] at e96; clear d96
              clear hρ hV
              exact runs_store_row 34 (.tmp 17) (.tmp 96) rfl g _ e17 e96 34 cur hcur (HI _ _).out hcsz (HO _ _).out rfl
            case r19_3o13 =>
              intro vs w hb hV
              rw [if_neg (by decide)]
              rw [if_pos (by kernel_rfl)]
              generalize hρ : rho _ _ _ vs = ρ
              have d97 : (vs 10) = .int .i64 0 := hV 10 (by kernel_rfl)
              have e97 : ρ (.tmp 97) = vs 10 := by rw [← hρ]; kernel_rfl
              clear hρ hV
              refine runs_val (v := vs 10) (w' := w) ?_ ⟨Below.refl _ _, d97⟩
              go_simp
            case r19_3e =>
              intro vs z1 g17 hb1 hV hgP hgB17 hgF17
              have d88 : (vs 0) = .agg (boardC F k) := hV 0 (Nat.le_of_ble_eq_true rfl)
              have d89 : (vs 1) = .int .u64 t := hV 1 (Nat.le_of_ble_eq_true rfl)
              have d90 : (vs 2) = .int .i64 o := hV 2 (Nat.le_of_ble_eq_true rfl)
              have d91 : (vs 3) = .int .i64 i := hV 3 (Nat.le_of_ble_eq_true rfl)
              have d92 : (vs 4) = .int .u32 i := hV 4 (Nat.le_of_ble_eq_true rfl)
              have d93 : (fun (w : World) (v : Value) => OfR wr.heap.size w i hs P1 C1 v) z1 (vs 5) := hV 5 (Nat.le_of_ble_eq_true rfl)
              have d94 : (vs 6) = .agg (boardC V0 k) := hV 6 (Nat.le_of_ble_eq_true rfl)
              have d95 : (vs 7) = .tuple #[.agg (boardC V1 k), .int .i64 0] := hV 7 (Nat.le_of_ble_eq_true rfl)
              have d87 : (vs 8) = .tuple #[.agg (boardC V1 k), .int .i64 0] := hV 8 (Nat.le_of_ble_eq_true rfl)
              have d96 : (vs 9) = .agg (boardC V1 k) := hV 9 (Nat.le_of_ble_eq_true rfl)
              have d97 : (vs 10) = .int .i64 0 := hV 10 (Nat.le_of_ble_eq_true rfl)
              have d17 : vs 11 = .pointer (some ⟨g17, 0, none⟩) := hgP; clear hgP
              have d18 : (vs 13) = .int .i64 0 := hV 13 (Nat.le_of_ble_eq_true rfl)
              clear hV
              simp only [putAll]
              rw [d88, d89, d90, d91, d92, d94, d95, d87, d96, d97, d17, d18]
              clear d88 d89 d90 d91 d92 d94 d95 d87 d96 d97 d17 d18
              generalize vs 5 = v93 at *
              generalize vs 12 = vN12
              clear vs
              simp only [Act.put, List.setIfInBounds_toArray, List.set_cons_zero, List.set_cons_succ]
              have H2 := Aside0.mk (H1.out.found hb1 hgB17 hgF17)
              clear hb1 hgB17 hgF17 H1 d93 KO KA IX
              go_wp2_with fail
              refine region_grown (W := z1)
                [fun (w : World) (v : Value) => v = .int .i64 0,
                 fun (w : World) (v : Value) => v = .bool false,
                 fun (w : World) (v : Value) => v = .bool false,
                 fun (w : World) (v : Value) => v = .agg (boardC V1 k),
                 fun (w : World) (v : Value) => v = .agg (boardC F k),
                 fun (w : World) (v : Value) => v = .int .i64 o,
                 fun (w : World) (v : Value) => v = .agg (boardC V1 k),
                 fun (w : World) (v : Value) => v = .bool false,
                 fun (w : World) (v : Value) => v = .bool false]
                (fun j => if j = 2 then some false else none)
                [(0, some 98), (1, some 99), (2, some 100), (3, some 101), (4, some 102), (5, some 103), (6, some 104), (7, some 105), (8, some 106)]
                [2]
                (by kernel_rfl) (by kernel_rfl) (by kernel_rfl) (by kernel_rfl) ?r20_4g ?r20_4s ⟨?r20_4o0, ?r20_4o1, ?r20_4o2, ?r20_4o3, ?r20_4o4, ?r20_4o5, ?r20_4o6, ?r20_4o7, ?r20_4o8, trivial⟩ ?r20_4e
              case r20_4g =>
                intro j hj w v hv
                simp only [List.mem_cons, List.not_mem_nil, or_false] at hj
                rcases hj with rfl
                · have hv' : v = .bool false := hv; rw [hv']; rfl
              case r20_4s =>
                refine ⟨(fun w w' v hb h => h), (fun w w' v hb h => h), (fun w w' v hb h => h), (fun w w' v hb h => h), (fun w w' v hb h => h), (fun w w' v hb h => h), (fun w w' v hb h => h), (fun w w' v hb h => h), (fun w w' v hb h => h), trivial⟩
              case r20_4o0 =>
                intro vs w hb hV
                rw [if_pos (by kernel_rfl)]
                generalize hρ : rho _ _ _ vs = ρ
                have e18 : ρ (.tmp 18) = .int .i64 0 := by rw [← hρ]; kernel_rfl
                clear hρ hV
                refine runs_val (v := .int .i64 0) (w' := w) ?_ ⟨Below.refl _ _, rfl⟩
                go_simp <;> (first | exact IntWalk.u64_in _ (by omega) | exact IntWalk.u32_in _ (by omega) | exact IntWalk.u16_in _ (by omega) | exact IntWalk.u8_in _ (by omega) | exact IntWalk.i64_in _ (by omega) | skip)
              case r20_4o1 =>
                intro vs w hb hV
                rw [if_pos (by kernel_rfl)]
                generalize hρ : rho _ _ _ vs = ρ
                have d98 : (vs 0) = .int .i64 0 := hV 0 (by kernel_rfl)
                have e98 : ρ (.tmp 98) = vs 0 := by rw [← hρ]; kernel_rfl
                rw [d98] at e98; clear d98
                have econ : ∀ v : Value, ρ (.const v) = v := fun v => by rw [← hρ]; rfl
                clear hρ hV
                refine runs_val (v := .bool false) (w' := w) ?_ ⟨Below.refl _ _, rfl⟩
                go_simp <;> (first | exact IntWalk.u64_in _ (by omega) | exact IntWalk.u32_in _ (by omega) | exact IntWalk.u16_in _ (by omega) | exact IntWalk.u8_in _ (by omega) | exact IntWalk.i64_in _ (by omega) | skip)
              case r20_4o2 =>
                intro vs w hb hV
                rw [if_pos (by kernel_rfl)]
                generalize hρ : rho _ _ _ vs = ρ
                have d99 : (vs 1) = .bool false := hV 1 (by kernel_rfl)
                have e99 : ρ (.tmp 99) = vs 1 := by rw [← hρ]; kernel_rfl
                clear hρ hV
                refine runs_val (v := vs 1) (w' := w) ?_ ⟨Below.refl _ _, d99⟩
                go_simp
              case r20_4o3 =>
                intro vs w hb hV
                rw [if_pos (by kernel_rfl)]
                generalize hρ : rho _ _ _ vs = ρ
                have e17 : ρ (.tmp 17) = .pointer (some ⟨g17, 0, none⟩) := by rw [← hρ]; kernel_rfl
                clear hρ hV
                exact runs_load 34 (.tmp 17) rfl g17 e17 34 (boardC V1 k) (0, 0) _ (((hb.block g17 (blk_lt (H2.out.get (i := 0) rfl))).trans (H2.out.get (i := 0) rfl))) Try.underlying34 rfl (HI _ _).out ⟨Below.refl _ _, rfl⟩
              case r20_4o4 =>
                intro vs w hb hV
                rw [if_pos (by kernel_rfl)]
                generalize hρ : rho _ _ _ vs = ρ
                have e9 : ρ (.tmp 9) = .pointer (some ⟨ga, 0, none⟩) := by rw [← hρ]; kernel_rfl
                clear hρ hV
                exact runs_load 34 (.tmp 9) rfl ga e9 34 (boardC F k) (0, 0) _ (((hb.block ga (blk_lt (H2.out.get (i := 2) rfl))).trans (H2.out.get (i := 2) rfl))) Try.underlying34 rfl (HI _ _).out ⟨Below.refl _ _, rfl⟩
              case r20_4o5 =>
                intro vs w hb hV
                rw [if_pos (by kernel_rfl)]
                generalize hρ : rho _ _ _ vs = ρ
                have e3 : ρ (.tmp 3) = .int .i64 o := by rw [← hρ]; kernel_rfl
                clear hρ hV
                refine runs_val (v := .int .i64 o) (w' := w) ?_ ⟨Below.refl _ _, rfl⟩
                go_simp <;> (first | exact IntWalk.u64_in _ (by omega) | exact IntWalk.u32_in _ (by omega) | exact IntWalk.u16_in _ (by omega) | exact IntWalk.u8_in _ (by omega) | exact IntWalk.i64_in _ (by omega) | skip)
              case r20_4o6 =>
                intro vs w hb hV
                rw [if_pos (by kernel_rfl)]
                generalize hρ : rho _ _ _ vs = ρ
                have d102 : (vs 4) = .agg (boardC F k) := hV 4 (by kernel_rfl)
                have e102 : ρ (.tmp 102) = vs 4 := by rw [← hρ]; kernel_rfl
                rw [d102] at e102; clear d102
                have d103 : (vs 5) = .int .i64 o := hV 5 (by kernel_rfl)
                have e103 : ρ (.tmp 103) = vs 5 := by rw [← hρ]; kernel_rfl
                rw [d103] at e103; clear d103
                have ef16 : ρ (.func 16) = .func (.func 16) #[] #[] := by rw [← hρ]; rfl
                clear hρ hV
                refine runs_call (f := 16) (args := #[.agg (boardC F k), .int .i64 o]) (w' := w) ?_ ?_
                · go_simp
                · have hvq := view_any F k o w H48.out
                  rw [HV1.out] at hvq
                  refine hvq.mono ?_
                  rintro e w5 ⟨rfl, hb5⟩
                  exact ⟨_, rfl, hb5, rfl⟩
              case r20_4o7 =>
                intro vs w hb hV
                rw [if_pos (by kernel_rfl)]
                generalize hρ : rho _ _ _ vs = ρ
                have d101 : (vs 3) = .agg (boardC V1 k) := hV 3 (by kernel_rfl)
                have e101 : ρ (.tmp 101) = vs 3 := by rw [← hρ]; kernel_rfl
                rw [d101] at e101; clear d101
                have d104 : (vs 6) = .agg (boardC V1 k) := hV 6 (by kernel_rfl)
                have e104 : ρ (.tmp 104) = vs 6 := by rw [← hρ]; kernel_rfl
                rw [d104] at e104; clear d104
                clear hρ hV
                obtain ⟨hbe, hbg⟩ := HBN.out
                refine runs_val (v := .bool false) (w' := w) ?_ ⟨Below.refl _ _, rfl⟩
                go_simp
              case r20_4o8 =>
                intro vs w hb hV
                rw [if_pos (by kernel_rfl)]
                generalize hρ : rho _ _ _ vs = ρ
                have d100 : (vs 2) = .bool false := hV 2 (by kernel_rfl)
                have e100 : ρ (.tmp 100) = vs 2 := by rw [← hρ]; kernel_rfl
                rw [d100] at e100; clear d100
                have d105 : (vs 7) = .bool false := hV 7 (by kernel_rfl)
                have e105 : ρ (.tmp 105) = vs 7 := by rw [← hρ]; kernel_rfl
                rw [d105] at e105; clear d105
                have econ : ∀ v : Value, ρ (.const v) = v := fun v => by rw [← hρ]; rfl
                clear hρ hV
                refine runs_val (v := .bool false) (w' := w) ?_ ⟨Below.refl _ _, rfl⟩
                go_simp <;> (first | exact IntWalk.u64_in _ (by omega) | exact IntWalk.u32_in _ (by omega) | exact IntWalk.u16_in _ (by omega) | exact IntWalk.u8_in _ (by omega) | exact IntWalk.i64_in _ (by omega) | skip)
              case r20_4e =>
                intro vs z2 hb2 hV
                have d98 : (vs 0) = .int .i64 0 := hV 0 (Nat.le_of_ble_eq_true rfl)
                have d99 : (vs 1) = .bool false := hV 1 (Nat.le_of_ble_eq_true rfl)
                have d100 : (vs 2) = .bool false := hV 2 (Nat.le_of_ble_eq_true rfl)
                have d101 : (vs 3) = .agg (boardC V1 k) := hV 3 (Nat.le_of_ble_eq_true rfl)
                have d102 : (vs 4) = .agg (boardC F k) := hV 4 (Nat.le_of_ble_eq_true rfl)
                have d103 : (vs 5) = .int .i64 o := hV 5 (Nat.le_of_ble_eq_true rfl)
                have d104 : (vs 6) = .agg (boardC V1 k) := hV 6 (Nat.le_of_ble_eq_true rfl)
                have d105 : (vs 7) = .bool false := hV 7 (Nat.le_of_ble_eq_true rfl)
                have d106 : (vs 8) = .bool false := hV 8 (Nat.le_of_ble_eq_true rfl)
                clear hV
                simp only [putAll]
                rw [d98, d99, d100, d101, d102, d103, d104, d105, d106]
                clear d98 d99 d100 d101 d102 d103 d104 d105 d106
                clear vs
                simp only [Act.put, List.setIfInBounds_toArray, List.set_cons_zero, List.set_cons_succ]
                have H3 := Aside0.mk (H2.out.call hb2)
                clear hb2 H2
                go_wp2_with (first | (refine wpList_load_row_g 34 (.tmp 17) rfl (g17) rfl rfl 34 _ (0, 0) _ (H3.out.get (i := 0) rfl) Try.underlying34 rfl (HI _ _).out ?_) | (refine wpList_store_row rfl 34 (.tmp 11) (.tmp 107) rfl (gv) (boardC V1 k) rfl rfl 34 _ (H3.out.get (i := 1) rfl) (HI _ _).out (by rw [boardC_size, boardC_size]) (HO _ _).out ?_))
                have H4 := Aside0.mk ((H3.out.setRow (i := 1) rfl (boardC V1 k)).rest)
                clear H3
                go_roundw
                case rel => exact ⟨i + 1, by omega, by go_num, F, ⟨by rw [HV1.out]; exact H4.out, HUF.out.1, HUF.out.2.1⟩⟩
                case measure => simp [intOf]; omega
      · have d2 : decide (12 ≤ (i : Int)) = true := decide_eq_true (by omega)
        have d2' : (12 : Int) ≤ i := by omega
        go_wp2_with (first | (refine wpList_load_row_g 34 (.tmp 9) rfl (ga) rfl rfl 34 _ (0, 0) _ (H.out.1.get (i := 1) rfl) Try.underlying34 rfl (HI _ _).out ?_))
        refine (full_any F0 m o 0 _ H48.out HUO.out.1).mono ?_
        rintro e z1 ⟨ve, rfl, hv, hb1⟩
        obtain ⟨V, hV⟩ : ∃ V, viewF F0 m o = V := ⟨_, rfl⟩
        rw [hV] at hv
        have H1 := Aside0.mk (H.out.1.call hb1)
        rw [hV] at H1
        have hVz : ∀ j, ¬ j < m → V j = z30 := fun j hj => by rw [← hV, view_out _ _ _ _ hj]; exact HUO.out.2 j hj
        have hVU : ∀ j, j < m → U32 (V j).f1 := fun j hj => by rw [← hV, view_f1]; exact HUO.out.1 j hj
        have hfl : fL (listF V m) = V := fL_listF' V m hVz
        have KD : Aside0 (∀ (X : World) (v : Value), DvC X 0 (sumB true (listF V m)) (plL allT m) (clL V allT m) v → Calls Try.prog 20 #[v] X fun e w' => e = .returned (.tuple #[.agg (boardC V m), .int .i64 0]) ∧ Below X.heap.size X w') := ⟨fun X v hv => by
          have h1 := dboard_any 0 (sumB true (listF V m)) m (plL allT m) (clL V allT m) v true X hv H48.out (plL_all H48.out).1 (by rw [clL_all V H48.out, listF_length]) (plL_all H48.out).2 (clL_u32 hVU) (by rw [clL_all V H48.out]; simp)
          rw [clL_all V H48.out, hfl] at h1
          exact h1⟩
        have KD2 := Aside0.mk (KD.out _ _ hv.cells)
        have hbe := board_eql V V m m
        rw [sameB_refl] at hbe
        have HBE2 := Aside0.mk (And.intro hbe board_guard)
        clear hV hb1 hVz hVU hfl KD hv hbe H
        go_wp2_with fail
        refine KD2.out.mono ?_
        rintro e z2 ⟨rfl, hb2⟩
        have H2 := Aside0.mk (H1.out.call hb2)
        have HZ := Aside0.mk (blk_new z2 (.cells (boardC (fun _ => z30) 0) 34))
        have H3 := Aside0.mk ((H2.out.alloc (.cells (boardC (fun _ => z30) 0) 34)).setRow (i := 0) rfl (boardC V m))
        clear hb2 H1 H2 KD2
        obtain ⟨hbe, hbg⟩ := HBE2.out
        go_wp2_with (first | (refine wpList_store_row rfl 34 (.tmp 19) (.tmp 114) rfl (z2.heap.size) (boardC V m) rfl rfl 34 _ HZ.out (HI _ _).out (by rw [boardC_size, boardC_size]) (HO _ _).out ?_) | (refine wpList_load_row_g 34 (.tmp 19) rfl (z2.heap.size) rfl rfl 34 _ (0, 0) _ (H3.out.get (i := 0) rfl) Try.underlying34 rfl (HI _ _).out ?_) | (refine wpList_load_row_g 34 (.tmp 11) rfl (gv) rfl rfl 34 _ (0, 0) _ (H3.out.get (i := 1) rfl) Try.underlying34 rfl (HI _ _).out ?_))
        go_ret
        rw [HBE.out]
        exact ⟨rfl, H3.out.bel⟩
    · have d1 : decide (i < q) = false := decide_eq_false hlt
      go_wp2_with (first | (refine wpList_load_row_g 34 (.tmp 9) rfl (ga) rfl rfl 34 _ (0, 0) _ (H.out.1.get (i := 1) rfl) Try.underlying34 rfl (HI _ _).out ?_))
      refine (full_any F0 m o 0 _ H48.out HUO.out.1).mono ?_
      rintro e z1 ⟨ve, rfl, hv, hb1⟩
      obtain ⟨V, hV⟩ : ∃ V, viewF F0 m o = V := ⟨_, rfl⟩
      rw [hV] at hv
      have H1 := Aside0.mk (H.out.1.call hb1)
      rw [hV] at H1
      have hVz : ∀ j, ¬ j < m → V j = z30 := fun j hj => by rw [← hV, view_out _ _ _ _ hj]; exact HUO.out.2 j hj
      have hVU : ∀ j, j < m → U32 (V j).f1 := fun j hj => by rw [← hV, view_f1]; exact HUO.out.1 j hj
      have hfl : fL (listF V m) = V := fL_listF' V m hVz
      have KD : Aside0 (∀ (X : World) (v : Value), DvC X 0 (sumB true (listF V m)) (plL allT m) (clL V allT m) v → Calls Try.prog 20 #[v] X fun e w' => e = .returned (.tuple #[.agg (boardC V m), .int .i64 0]) ∧ Below X.heap.size X w') := ⟨fun X v hv => by
        have h1 := dboard_any 0 (sumB true (listF V m)) m (plL allT m) (clL V allT m) v true X hv H48.out (plL_all H48.out).1 (by rw [clL_all V H48.out, listF_length]) (plL_all H48.out).2 (clL_u32 hVU) (by rw [clL_all V H48.out]; simp)
        rw [clL_all V H48.out, hfl] at h1
        exact h1⟩
      have KD2 := Aside0.mk (KD.out _ _ hv.cells)
      have hbe := board_eql V V m m
      rw [sameB_refl] at hbe
      have HBE2 := Aside0.mk (And.intro hbe board_guard)
      clear hV hb1 hVz hVU hfl KD hv hbe H
      go_wp2_with fail
      refine KD2.out.mono ?_
      rintro e z2 ⟨rfl, hb2⟩
      have H2 := Aside0.mk (H1.out.call hb2)
      have HZ := Aside0.mk (blk_new z2 (.cells (boardC (fun _ => z30) 0) 34))
      have H3 := Aside0.mk ((H2.out.alloc (.cells (boardC (fun _ => z30) 0) 34)).setRow (i := 0) rfl (boardC V m))
      clear hb2 H1 H2 KD2
      obtain ⟨hbe, hbg⟩ := HBE2.out
      go_wp2_with (first | (refine wpList_store_row rfl 34 (.tmp 19) (.tmp 114) rfl (z2.heap.size) (boardC V m) rfl rfl 34 _ HZ.out (HI _ _).out (by rw [boardC_size, boardC_size]) (HO _ _).out ?_) | (refine wpList_load_row_g 34 (.tmp 19) rfl (z2.heap.size) rfl rfl 34 _ (0, 0) _ (H3.out.get (i := 0) rfl) Try.underlying34 rfl (HI _ _).out ?_) | (refine wpList_load_row_g 34 (.tmp 11) rfl (gv) rfl rfl 34 _ (0, 0) _ (H3.out.get (i := 1) rfl) Try.underlying34 rfl (HI _ _).out ?_))
      go_ret
      rw [HBE.out]
      exact ⟨rfl, H3.out.bel⟩
end Go.Proofs.Ytkhlalpkkmjfnaa
