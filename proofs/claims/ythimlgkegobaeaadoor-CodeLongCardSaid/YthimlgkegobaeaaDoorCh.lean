/- code.Bytes. -/
import Derived.Test.YthimlgkegobaeaaDoorCg
import Derived.Test.YthimlgkegobaeaaDoorPc
import Derived.Test.YthimlgkegobaeaaDoorPd
import Derived.Test.YthimlgkegobaeaaDoorO5
namespace Go.Proofs.YthimlgkegobaeaaDoor
open Go.RowKit Go.Shelf Go.Proofs.YthimlgkegobaeaaDoorW.PrintWords Go.Proofs.YthimlgkegobaeaaDoorW.PrintLast Go.Proofs.YthimlgkegobaeaaDoorW.PrintMore
set_option linter.unusedVariables false
set_option linter.unusedSimpArgs false

/-- An instruction's bytes. -/
def cB (x : S25) : List Int := [x.f0] ++ [x.f1] ++ [x.f2] ++ [x.f3] ++ lowN (x.f4 % 4294967296).toNat 4 ++ lowN x.f5.toNat 4
def cBytes (l : List S25) : List Int := [(l.length : Int)] ++ l.flatMap cB
theorem cB_len (x : S25) : (cB x).length = 12 := by unfold cB; simp [lowN_length]
theorem flat_len (l : List S25) : (l.flatMap cB).length = 12 * l.length := by
  induction l with
  | nil => rfl
  | cons x r ih => rw [List.flatMap_cons, List.length_append, cB_len, ih, List.length_cons]; omega
theorem flat_take (l : List S25) (i : Nat) (h : i < l.length) : (l.take (i + 1)).flatMap cB = (l.take i).flatMap cB ++ cB l[i] := by
  rw [take_next l i h, List.flatMap_append]; simp
theorem pput_keep {w w' : World} {base g : Nat} {p p' : List Int} {v v' : Value} {gd t : Nat} {cs : Array Value} (hp : Pn w base g p v) (h : PPut w w' base g v p' v') (hd : w.heap[gd]? = some (.cells cs t (0, 0))) (hg : gd ≠ g) (ht : 5 ≠ t) : w'.heap[gd]? = some (.cells cs t (0, 0)) :=
  (h.2.1.2 gd (blk_lt hd) hg (fun e => Kd.R_ne hp.2 hd ht e)).trans hd
set_option maxRecDepth 100000 in
set_option maxHeartbeats 2000000 in
theorem pnum1_any (base g : Nat) (p : List Int) (v : Value) (x : Int) (hx : 0 ≤ x ∧ x < 128) (w : World) (hk : Pn w base g p v) (hb : base ≤ g) (hl : p.length ≤ 10000000) :
    Calls Tryd.prog 40 #[.pointer (some ⟨g, 0, none⟩), .int .u64 x] w fun e w' => ∃ v', e = .returned (.pointer (some ⟨g, 0, none⟩)) ∧ PPut w w' base g v (p ++ [x]) v' := by
  have hal := below_alloc (Below.refl w.heap.size w) (.cells #[.int .u8 x] 5)
  have HK := Aside0.mk hk
  have HB := Aside0.mk hb
  have HAL := Aside0.mk hal
  have KEY := Aside0.mk (add_any base g p [x] v (some ⟨w.heap.size, 0, none⟩) 1 1 _ (hk.below hal) hb (row8_C (blk_new w _) rfl (by simp)) (by omega))
  have hw8 : IntKind.u8.wrap x = x := by rw [IntKind.wrap_u8]; omega
  have hw9 : x % 256 = x := by omega
  clear hk hb hal hl
  go_enter Tryd.func40, Tryd.ntmps40
  go_wp2_with fail
  go_loopw [1] (fun v1 wr => v1 = .int .u64 x ∧ wr = w) (fun v1 _ => 0)
  case atStart => exact ⟨rfl, rfl⟩
  case round =>
    obtain ⟨rfl, rfl⟩ := hrel
    go_wp2_with (first | (go_at_call 67; refine KEY.out.mono ?_; rintro e w1 ⟨v', rfl, h⟩; have H := Aside0.mk (PPut.after HB.out HK.out HAL.out h); clear h))
    go_ret
    exact ⟨_, rfl, H.out⟩
theorem cbytes_no (A : Option Addr) (c : Nat) (l : List S25) (w : World) (hl : 96 < l.length) :
    Calls Tryd.prog 21 #[.slice A l.length c] w fun e w' => e = .returned (.slice none 0 0) ∧ Below w.heap.size w w' := by
  go_enter Tryd.func21, Tryd.ntmps21
  go_wp2_with fail
  go_ret
  exact ⟨rfl, Below.refl _ _⟩
set_option maxRecDepth 100000 in
set_option maxHeartbeats 16000000 in
theorem cbytes_any (A : Option Addr) (c : Nat) (l : List S25) (w00 : World) (hr : k25.C w00 A l.length l) (hc : l.length ≤ c) (hok : ∀ x ∈ l, OkI x) (hl : l.length ≤ 96) :
    Calls Tryd.prog 21 #[.slice A l.length c] w00 fun e w' => ∃ v', e = .returned v' ∧ (Kd.int .u8).R 5 w' w00.heap.size (fun _ => True) v' (cBytes l) ∧ Below w00.heap.size w00 w' := by
  have HR := Aside0.mk hr
  have HO := Aside0.mk hok
  have hd96 : decide ((96 : Int) < (l.length : Int)) = false := decide_eq_false (by omega)
  have hwl : IntKind.u64.wrap (l.length : Int) = (l.length : Int) := by rw [IntKind.wrap_u64]; omega
  have HP0 : Aside0 (Pn (w00.alloc (.cells #[.slice none 0 0] 83)) w00.heap.size w00.heap.size [] (.slice none 0 0)) := ⟨⟨blk_new _ _, Kd.R_nil _ _ _ _ _⟩⟩
  have HB0 : Aside0 (Below w00.heap.size w00 (w00.alloc (.cells #[.slice none 0 0] 83))) := ⟨below_alloc (Below.refl _ _) _⟩
  have hl0 : (0 : Int) ≤ (l.length : Int) ∧ (l.length : Int) < 128 := by omega
  clear hr hok
  go_enter Tryd.func21, Tryd.ntmps21
  go_wp2_with fail
  refine (pnum1_any w00.heap.size w00.heap.size [] (.slice none 0 0) (l.length : Int) hl0 _ HP0.out (Nat.le_refl _) (by simp)).mono ?_
  rintro e w1 ⟨v1, rfl, h⟩
  have HP1 : Aside0 (∃ v, Pn w1 w00.heap.size w00.heap.size ([(l.length : Int)] ++ (l.take 0).flatMap cB) v) := ⟨v1, h.1⟩
  have HB1 := Aside0.mk (HB0.out.trans h.2.2.2)
  clear h HP0 HB0 v1
  go_wp2_with fail
  go_loopw [15] (fun v15 wr => ∃ i : Nat, i ≤ l.length ∧ v15 = .int .i64 (i : Int) ∧ Aside0 (∃ v, Pn wr w00.heap.size w00.heap.size ([(l.length : Int)] ++ (l.take i).flatMap cB) v) ∧ Aside0 (Below w00.heap.size w00 wr)) (fun v15 _ => ((l.length : Int) - intV v15).toNat)
  case atStart => exact ⟨0, by omega, rfl, HP1, HB1⟩
  case round =>
    obtain ⟨i, hi, rfl, HP, HBR⟩ := hrel
    by_cases h : i < l.length
    · obtain ⟨ad, hA, c0, d1, d2, d3, d4, d5⟩ := at_T25 (Kd.C_below HR.out HBR.out) (i : Int) (by omega) (by omega)
      obtain ⟨x, hx⟩ : ∃ x, l[i] = x := ⟨_, rfl⟩
      rw [rdX h, hx] at c0 d1 d2 d3 d4 d5
      rw [Int.toNat_natCast] at c0 d1 d2 d3 d4 d5
      have hok : OkI x := HO.out x (by rw [← hx]; exact List.getElem_mem h)
      have hft := flat_take l i h
      have hfl := flat_len (l.take i)
      have hpl : ([(l.length : Int)] ++ (l.take i).flatMap cB).length ≤ 2000 := by
        rw [List.length_append, hfl, List.length_take]; simp; omega
      rw [hx] at hft
      subst hA
      obtain ⟨P, hP⟩ : ∃ P, [(l.length : Int)] ++ (l.take i).flatMap cB = P := ⟨_, rfl⟩
      have HE : Aside0 ([(l.length : Int)] ++ (l.take (i + 1)).flatMap cB = P ++ [x.f0] ++ [x.f1] ++ [x.f2] ++ [x.f3] ++ lowN (x.f4 % 4294967296).toNat 4 ++ lowN x.f5.toNat 4) := ⟨by
        rw [hft, ← hP]; unfold cB; simp only [List.append_assoc]⟩
      rw [hP] at HP hpl
      obtain ⟨u4, hu4⟩ : ∃ u4 : Nat, (x.f4 % 4294967296).toNat = u4 := ⟨_, rfl⟩
      obtain ⟨u5, hu5⟩ : ∃ u5 : Nat, x.f5.toNat = u5 := ⟨_, rfl⟩
      rw [hu4, hu5] at HE
      have HU4 : Aside0 (u4 < 4294967296 ∧ (u4 : Int) = x.f4 % 4294967296) := ⟨by omega⟩
      have HU5 : Aside0 (u5 < 4294967296 ∧ x.f5 = (u5 : Int)) := ⟨by have := hok.2.2.2.2.2; omega⟩
      have HPL := Aside0.mk hpl
      obtain ⟨v0, hp0⟩ := HP.out
      have hd := blk_new wr (.cells #[.int .u8 x.f0, .int .u8 x.f1, .int .u8 x.f2, .int .u8 x.f3, .int .i32 x.f4, .int .u32 x.f5] 25)
      have HST : Aside0 (Below w00.heap.size w00 (wr.alloc (.cells #[.int .u8 x.f0, .int .u8 x.f1, .int .u8 x.f2, .int .u8 x.f3, .int .i32 x.f4, .int .u32 x.f5] 25)) ∧ w00.heap.size ≤ (wr.alloc (.cells #[.int .u8 x.f0, .int .u8 x.f1, .int .u8 x.f2, .int .u8 x.f3, .int .i32 x.f4, .int .u32 x.f5] 25)).heap.size ∧ (wr.alloc (.cells #[.int .u8 x.f0, .int .u8 x.f1, .int .u8 x.f2, .int .u8 x.f3, .int .i32 x.f4, .int .u32 x.f5] 25)).heap[wr.heap.size]? = some (.cells #[.int .u8 x.f0, .int .u8 x.f1, .int .u8 x.f2, .int .u8 x.f3, .int .i32 x.f4, .int .u32 x.f5] 25 (0, 0))) := ⟨below_alloc HBR.out _, (below_alloc HBR.out (.cells #[.int .u8 x.f0, .int .u8 x.f1, .int .u8 x.f2, .int .u8 x.f3, .int .i32 x.f4, .int .u32 x.f5] 25)).size, hd⟩
      have HPS : Aside0 (∃ v, Pn (wr.alloc (.cells #[.int .u8 x.f0, .int .u8 x.f1, .int .u8 x.f2, .int .u8 x.f3, .int .i32 x.f4, .int .u32 x.f5] 25)) w00.heap.size w00.heap.size P v) := ⟨v0, hp0.below (below_alloc (Below.refl _ _) _)⟩
      have HGD : Aside0 (wr.heap.size ≠ w00.heap.size) := ⟨by have := hp0.lt; omega⟩
      clear hft hfl hpl hP hu4 hu5 hp0 hd hx HP HBR hok v0
      go_wp2_with fail
      generalize hgd : wr.heap.size = gd at *
      clear hgd
      generalize wr.alloc (.cells #[.int .u8 x.f0, .int .u8 x.f1, .int .u8 x.f2, .int .u8 x.f3, .int .i32 x.f4, .int .u32 x.f5] 25) = V1 at *
      refine regionS (W := V1)
        [fun _ v => v = .pointer (some ⟨gd, 0, none⟩),
         fun _ v => v = .int .u8 x.f0,
         fun _ v => v = .pointer (some ⟨w00.heap.size, 0, none⟩),
         fun _ v => v = .pointer (some ⟨gd, 1, none⟩),
         fun _ v => v = .int .u8 x.f1,
         fun _ v => v = .pointer (some ⟨w00.heap.size, 0, none⟩),
         fun _ v => v = .pointer (some ⟨gd, 2, none⟩),
         fun _ v => v = .int .u8 x.f2,
         fun _ v => v = .pointer (some ⟨w00.heap.size, 0, none⟩),
         fun _ v => v = .pointer (some ⟨gd, 3, none⟩),
         fun _ v => v = .int .u8 x.f3,
         fun _ v => v = .pointer (some ⟨w00.heap.size, 0, none⟩),
         fun _ v => v = .pointer (some ⟨gd, 4, none⟩),
         fun _ v => v = .int .i32 x.f4,
         fun _ v => v = .int .u32 (u4 : Int),
         fun _ v => v = .pointer (some ⟨w00.heap.size, 0, none⟩),
         fun _ v => v = .pointer (some ⟨gd, 5, none⟩),
         fun _ v => v = .int .u32 (u5 : Int),
         fun _ v => v = .pointer (some ⟨w00.heap.size, 0, none⟩)]
        [2, 5, 8, 11, 15, 18]
        (fun t => match t with | 0 => fun (rs : List Value) (w : World) => ∃ v, Pn w w00.heap.size w00.heap.size (P) v | 1 => fun (rs : List Value) (w : World) => ∃ v, Pn w w00.heap.size w00.heap.size (P ++ [x.f0]) v | 2 => fun (rs : List Value) (w : World) => ∃ v, Pn w w00.heap.size w00.heap.size (P ++ [x.f0] ++ [x.f1]) v | 3 => fun (rs : List Value) (w : World) => ∃ v, Pn w w00.heap.size w00.heap.size (P ++ [x.f0] ++ [x.f1] ++ [x.f2]) v | 4 => fun (rs : List Value) (w : World) => ∃ v, Pn w w00.heap.size w00.heap.size (P ++ [x.f0] ++ [x.f1] ++ [x.f2] ++ [x.f3]) v | 5 => fun (rs : List Value) (w : World) => ∃ v, Pn w w00.heap.size w00.heap.size (P ++ [x.f0] ++ [x.f1] ++ [x.f2] ++ [x.f3] ++ lowN u4 4) v | 6 => fun (rs : List Value) (w : World) => ∃ v, Pn w w00.heap.size w00.heap.size (P ++ [x.f0] ++ [x.f1] ++ [x.f2] ++ [x.f3] ++ lowN u4 4 ++ lowN u5 4) v | _ => fun _ _ => False)
        (fun _ _ _ => True) (fun w => Below w00.heap.size w00 w ∧ w00.heap.size ≤ w.heap.size ∧ w.heap[gd]? = some (.cells #[.int .u8 x.f0, .int .u8 x.f1, .int .u8 x.f2, .int .u8 x.f3, .int .i32 x.f4, .int .u32 x.f5] 25 (0, 0)))
        (fun j =>  none)
        [(0, some 19), (1, some 20), (2, some 21), (3, some 22), (4, some 23), (5, some 24), (6, some 25), (7, some 26), (8, some 27), (9, some 28), (10, some 29), (11, some 30), (12, some 31), (13, some 32), (14, some 33), (15, some 34), (16, some 35), (17, some 36), (18, some 37)]
        []
        (by kernel_rfl) (by kernel_rfl) (by kernel_rfl) (by kernel_rfl) (by kernel_rfl) ?z8_1c ?z8_1i ?z8_1b ?z8_1d ?z8_1g ⟨?z8_1t0, ?z8_1t1, ?z8_1t2, ?z8_1t3, ?z8_1t4, ?z8_1t5, ?z8_1t6, ?z8_1t7, ?z8_1t8, ?z8_1t9, ?z8_1t10, ?z8_1t11, ?z8_1t12, ?z8_1t13, ?z8_1t14, ?z8_1t15, ?z8_1t16, ?z8_1t17, ?z8_1t18, trivial⟩ ⟨?z8_1o0, ?z8_1o1, ?z8_1o2, ?z8_1o3, ?z8_1o4, ?z8_1o5, ?z8_1o6, ?z8_1o7, ?z8_1o8, ?z8_1o9, ?z8_1o10, ?z8_1o11, ?z8_1o12, ?z8_1o13, ?z8_1o14, ?z8_1o15, ?z8_1o16, ?z8_1o17, ?z8_1o18, trivial⟩ ?z8_1e
      case z8_1c => exact ⟨HST.out.1.trans (below_drew (Below.refl _ _)), HST.out.2.1, HST.out.2.2⟩
      case z8_1i => exact HPS.out
      case z8_1b => intro w w' hb h; exact ⟨h.1.trans (hb.mono h.2.1), Nat.le_trans h.2.1 hb.size, (hb.block _ (blk_lt h.2.2)).trans h.2.2⟩
      case z8_1d =>
        intro t rs w w' hb h
        match t, h with
        | 0, h => (replace h : ∃ v, Pn w w00.heap.size w00.heap.size (P) v := h); show ∃ v, Pn w' w00.heap.size w00.heap.size (P) v; (obtain ⟨v, h⟩ := h; exact ⟨v, h.below hb⟩)
        | 1, h => (replace h : ∃ v, Pn w w00.heap.size w00.heap.size (P ++ [x.f0]) v := h); show ∃ v, Pn w' w00.heap.size w00.heap.size (P ++ [x.f0]) v; (obtain ⟨v, h⟩ := h; exact ⟨v, h.below hb⟩)
        | 2, h => (replace h : ∃ v, Pn w w00.heap.size w00.heap.size (P ++ [x.f0] ++ [x.f1]) v := h); show ∃ v, Pn w' w00.heap.size w00.heap.size (P ++ [x.f0] ++ [x.f1]) v; (obtain ⟨v, h⟩ := h; exact ⟨v, h.below hb⟩)
        | 3, h => (replace h : ∃ v, Pn w w00.heap.size w00.heap.size (P ++ [x.f0] ++ [x.f1] ++ [x.f2]) v := h); show ∃ v, Pn w' w00.heap.size w00.heap.size (P ++ [x.f0] ++ [x.f1] ++ [x.f2]) v; (obtain ⟨v, h⟩ := h; exact ⟨v, h.below hb⟩)
        | 4, h => (replace h : ∃ v, Pn w w00.heap.size w00.heap.size (P ++ [x.f0] ++ [x.f1] ++ [x.f2] ++ [x.f3]) v := h); show ∃ v, Pn w' w00.heap.size w00.heap.size (P ++ [x.f0] ++ [x.f1] ++ [x.f2] ++ [x.f3]) v; (obtain ⟨v, h⟩ := h; exact ⟨v, h.below hb⟩)
        | 5, h => (replace h : ∃ v, Pn w w00.heap.size w00.heap.size (P ++ [x.f0] ++ [x.f1] ++ [x.f2] ++ [x.f3] ++ lowN u4 4) v := h); show ∃ v, Pn w' w00.heap.size w00.heap.size (P ++ [x.f0] ++ [x.f1] ++ [x.f2] ++ [x.f3] ++ lowN u4 4) v; (obtain ⟨v, h⟩ := h; exact ⟨v, h.below hb⟩)
        | 6, h => (replace h : ∃ v, Pn w w00.heap.size w00.heap.size (P ++ [x.f0] ++ [x.f1] ++ [x.f2] ++ [x.f3] ++ lowN u4 4 ++ lowN u5 4) v := h); show ∃ v, Pn w' w00.heap.size w00.heap.size (P ++ [x.f0] ++ [x.f1] ++ [x.f2] ++ [x.f3] ++ lowN u4 4 ++ lowN u5 4) v; (obtain ⟨v, h⟩ := h; exact ⟨v, h.below hb⟩)
        | _ + 7, h => exact h.elim
      case z8_1g =>
        intro j hj; cases hj
      case z8_1t0 => exact StabS.const _ _ _ _
      case z8_1t1 => exact StabS.const _ _ _ _
      case z8_1t2 => exact StabS.const _ _ _ _
      case z8_1t3 => exact StabS.const _ _ _ _
      case z8_1t4 => exact StabS.const _ _ _ _
      case z8_1t5 => exact StabS.const _ _ _ _
      case z8_1t6 => exact StabS.const _ _ _ _
      case z8_1t7 => exact StabS.const _ _ _ _
      case z8_1t8 => exact StabS.const _ _ _ _
      case z8_1t9 => exact StabS.const _ _ _ _
      case z8_1t10 => exact StabS.const _ _ _ _
      case z8_1t11 => exact StabS.const _ _ _ _
      case z8_1t12 => exact StabS.const _ _ _ _
      case z8_1t13 => exact StabS.const _ _ _ _
      case z8_1t14 => exact StabS.const _ _ _ _
      case z8_1t15 => exact StabS.const _ _ _ _
      case z8_1t16 => exact StabS.const _ _ _ _
      case z8_1t17 => exact StabS.const _ _ _ _
      case z8_1t18 => exact StabS.const _ _ _ _
      case z8_1o0 =>
        intro vs w t hC ht1 ht2 hS hV
        rw [if_pos (by kernel_rfl)]
        generalize hρ : rho _ _ _ vs = ρ
        have e5 : ρ (.tmp 5) = .pointer (some ⟨gd, 0, none⟩) := by rw [← hρ]; kernel_rfl
        clear hρ hV
        refine runs_val (v := .pointer (some ⟨gd, 0, none⟩)) (w' := w) ?_ ⟨Below.refl _ _, rfl⟩
        clear ht1 ht2 hS hC
        go_simp <;> (first | exact IntWalk.u64_in _ (by omega) | exact IntWalk.u32_in _ (by omega) | exact IntWalk.u16_in _ (by omega) | exact IntWalk.u8_in _ (by omega) | exact IntWalk.i64_in _ (by omega) | skip)
      case z8_1o1 =>
        intro vs w t hC ht1 ht2 hS hV
        rw [if_pos (by kernel_rfl)]
        generalize hρ : rho _ _ _ vs = ρ
        have d19 : (vs 0) = .pointer (some ⟨gd, 0, none⟩) := hV 0 (by kernel_rfl)
        have e19 : ρ (.tmp 19) = vs 0 := by rw [← hρ]; kernel_rfl
        rw [d19] at e19; clear d19
        clear hρ hV
        have c0 := blk_cell hC.2.2 0
        refine runs_val (v := .int .u8 x.f0) (w' := w) ?_ ⟨Below.refl _ _, rfl⟩
        clear ht1 ht2 hS hC
        go_simp
      case z8_1o2 =>
        intro vs w hC hS hV
        replace hS : ∃ v, Pn w w00.heap.size w00.heap.size (P) v := hS
        rw [if_pos (by kernel_rfl)]
        generalize hρ : rho _ _ _ vs = ρ
        have e3 : ρ (.tmp 3) = .pointer (some ⟨w00.heap.size, 0, none⟩) := by rw [← hρ]; kernel_rfl
        have d20 : (vs 1) = .int .u8 x.f0 := hV 1 (by kernel_rfl)
        have e20 : ρ (.tmp 20) = vs 1 := by rw [← hρ]; kernel_rfl
        rw [d20] at e20; clear d20
        have ef41 : ρ (.func 41) = .func (.func 41) #[] #[] := by rw [← hρ]; rfl
        clear hρ hV
        obtain ⟨v, hp⟩ := hS
        refine runs_call (f := 41) (args := #[.pointer (some ⟨w00.heap.size, 0, none⟩), .int .u8 x.f0]) (w' := w) ?_ ?_
        · go_simp
        · refine (pbyte_any w00.heap.size w00.heap.size (P) v x.f0 w hp (Nat.le_refl _) (by have := HPL.out; first | (simp only [List.length_append, lowN_length, List.length_cons, List.length_nil]; omega) | omega)).mono ?_
          rintro e w5 ⟨v', rfl, h⟩
          exact ⟨_, rfl, ⟨hC.1.trans h.2.2.2, Nat.le_trans hC.2.1 h.2.1.1, pput_keep hp h hC.2.2 HGD.out (by decide)⟩, trivial, rfl, ⟨v', h.1⟩⟩
      case z8_1o3 =>
        intro vs w t hC ht1 ht2 hS hV
        rw [if_pos (by kernel_rfl)]
        generalize hρ : rho _ _ _ vs = ρ
        have e5 : ρ (.tmp 5) = .pointer (some ⟨gd, 0, none⟩) := by rw [← hρ]; kernel_rfl
        clear hρ hV
        refine runs_val (v := .pointer (some ⟨gd, 1, none⟩)) (w' := w) ?_ ⟨Below.refl _ _, rfl⟩
        clear ht1 ht2 hS hC
        go_simp <;> (first | exact IntWalk.u64_in _ (by omega) | exact IntWalk.u32_in _ (by omega) | exact IntWalk.u16_in _ (by omega) | exact IntWalk.u8_in _ (by omega) | exact IntWalk.i64_in _ (by omega) | skip)
      case z8_1o4 =>
        intro vs w t hC ht1 ht2 hS hV
        rw [if_pos (by kernel_rfl)]
        generalize hρ : rho _ _ _ vs = ρ
        have d22 : (vs 3) = .pointer (some ⟨gd, 1, none⟩) := hV 3 (by kernel_rfl)
        have e22 : ρ (.tmp 22) = vs 3 := by rw [← hρ]; kernel_rfl
        rw [d22] at e22; clear d22
        clear hρ hV
        have c0 := blk_cell hC.2.2 1
        refine runs_val (v := .int .u8 x.f1) (w' := w) ?_ ⟨Below.refl _ _, rfl⟩
        clear ht1 ht2 hS hC
        go_simp
      case z8_1o5 =>
        intro vs w hC hS hV
        replace hS : ∃ v, Pn w w00.heap.size w00.heap.size (P ++ [x.f0]) v := hS
        rw [if_pos (by kernel_rfl)]
        generalize hρ : rho _ _ _ vs = ρ
        have d21 : (vs 2) = .pointer (some ⟨w00.heap.size, 0, none⟩) := hV 2 (by kernel_rfl)
        have e21 : ρ (.tmp 21) = vs 2 := by rw [← hρ]; kernel_rfl
        rw [d21] at e21; clear d21
        have d23 : (vs 4) = .int .u8 x.f1 := hV 4 (by kernel_rfl)
        have e23 : ρ (.tmp 23) = vs 4 := by rw [← hρ]; kernel_rfl
        rw [d23] at e23; clear d23
        have ef41 : ρ (.func 41) = .func (.func 41) #[] #[] := by rw [← hρ]; rfl
        clear hρ hV
        obtain ⟨v, hp⟩ := hS
        refine runs_call (f := 41) (args := #[.pointer (some ⟨w00.heap.size, 0, none⟩), .int .u8 x.f1]) (w' := w) ?_ ?_
        · go_simp
        · refine (pbyte_any w00.heap.size w00.heap.size (P ++ [x.f0]) v x.f1 w hp (Nat.le_refl _) (by have := HPL.out; first | (simp only [List.length_append, lowN_length, List.length_cons, List.length_nil]; omega) | omega)).mono ?_
          rintro e w5 ⟨v', rfl, h⟩
          exact ⟨_, rfl, ⟨hC.1.trans h.2.2.2, Nat.le_trans hC.2.1 h.2.1.1, pput_keep hp h hC.2.2 HGD.out (by decide)⟩, trivial, rfl, ⟨v', h.1⟩⟩
      case z8_1o6 =>
        intro vs w t hC ht1 ht2 hS hV
        rw [if_pos (by kernel_rfl)]
        generalize hρ : rho _ _ _ vs = ρ
        have e5 : ρ (.tmp 5) = .pointer (some ⟨gd, 0, none⟩) := by rw [← hρ]; kernel_rfl
        clear hρ hV
        refine runs_val (v := .pointer (some ⟨gd, 2, none⟩)) (w' := w) ?_ ⟨Below.refl _ _, rfl⟩
        clear ht1 ht2 hS hC
        go_simp <;> (first | exact IntWalk.u64_in _ (by omega) | exact IntWalk.u32_in _ (by omega) | exact IntWalk.u16_in _ (by omega) | exact IntWalk.u8_in _ (by omega) | exact IntWalk.i64_in _ (by omega) | skip)
      case z8_1o7 =>
        intro vs w t hC ht1 ht2 hS hV
        rw [if_pos (by kernel_rfl)]
        generalize hρ : rho _ _ _ vs = ρ
        have d25 : (vs 6) = .pointer (some ⟨gd, 2, none⟩) := hV 6 (by kernel_rfl)
        have e25 : ρ (.tmp 25) = vs 6 := by rw [← hρ]; kernel_rfl
        rw [d25] at e25; clear d25
        clear hρ hV
        have c0 := blk_cell hC.2.2 2
        refine runs_val (v := .int .u8 x.f2) (w' := w) ?_ ⟨Below.refl _ _, rfl⟩
        clear ht1 ht2 hS hC
        go_simp
      case z8_1o8 =>
        intro vs w hC hS hV
        replace hS : ∃ v, Pn w w00.heap.size w00.heap.size (P ++ [x.f0] ++ [x.f1]) v := hS
        rw [if_pos (by kernel_rfl)]
        generalize hρ : rho _ _ _ vs = ρ
        have d24 : (vs 5) = .pointer (some ⟨w00.heap.size, 0, none⟩) := hV 5 (by kernel_rfl)
        have e24 : ρ (.tmp 24) = vs 5 := by rw [← hρ]; kernel_rfl
        rw [d24] at e24; clear d24
        have d26 : (vs 7) = .int .u8 x.f2 := hV 7 (by kernel_rfl)
        have e26 : ρ (.tmp 26) = vs 7 := by rw [← hρ]; kernel_rfl
        rw [d26] at e26; clear d26
        have ef41 : ρ (.func 41) = .func (.func 41) #[] #[] := by rw [← hρ]; rfl
        clear hρ hV
        obtain ⟨v, hp⟩ := hS
        refine runs_call (f := 41) (args := #[.pointer (some ⟨w00.heap.size, 0, none⟩), .int .u8 x.f2]) (w' := w) ?_ ?_
        · go_simp
        · refine (pbyte_any w00.heap.size w00.heap.size (P ++ [x.f0] ++ [x.f1]) v x.f2 w hp (Nat.le_refl _) (by have := HPL.out; first | (simp only [List.length_append, lowN_length, List.length_cons, List.length_nil]; omega) | omega)).mono ?_
          rintro e w5 ⟨v', rfl, h⟩
          exact ⟨_, rfl, ⟨hC.1.trans h.2.2.2, Nat.le_trans hC.2.1 h.2.1.1, pput_keep hp h hC.2.2 HGD.out (by decide)⟩, trivial, rfl, ⟨v', h.1⟩⟩
      case z8_1o9 =>
        intro vs w t hC ht1 ht2 hS hV
        rw [if_pos (by kernel_rfl)]
        generalize hρ : rho _ _ _ vs = ρ
        have e5 : ρ (.tmp 5) = .pointer (some ⟨gd, 0, none⟩) := by rw [← hρ]; kernel_rfl
        clear hρ hV
        refine runs_val (v := .pointer (some ⟨gd, 3, none⟩)) (w' := w) ?_ ⟨Below.refl _ _, rfl⟩
        clear ht1 ht2 hS hC
        go_simp <;> (first | exact IntWalk.u64_in _ (by omega) | exact IntWalk.u32_in _ (by omega) | exact IntWalk.u16_in _ (by omega) | exact IntWalk.u8_in _ (by omega) | exact IntWalk.i64_in _ (by omega) | skip)
      case z8_1o10 =>
        intro vs w t hC ht1 ht2 hS hV
        rw [if_pos (by kernel_rfl)]
        generalize hρ : rho _ _ _ vs = ρ
        have d28 : (vs 9) = .pointer (some ⟨gd, 3, none⟩) := hV 9 (by kernel_rfl)
        have e28 : ρ (.tmp 28) = vs 9 := by rw [← hρ]; kernel_rfl
        rw [d28] at e28; clear d28
        clear hρ hV
        have c0 := blk_cell hC.2.2 3
        refine runs_val (v := .int .u8 x.f3) (w' := w) ?_ ⟨Below.refl _ _, rfl⟩
        clear ht1 ht2 hS hC
        go_simp
      case z8_1o11 =>
        intro vs w hC hS hV
        replace hS : ∃ v, Pn w w00.heap.size w00.heap.size (P ++ [x.f0] ++ [x.f1] ++ [x.f2]) v := hS
        rw [if_pos (by kernel_rfl)]
        generalize hρ : rho _ _ _ vs = ρ
        have d27 : (vs 8) = .pointer (some ⟨w00.heap.size, 0, none⟩) := hV 8 (by kernel_rfl)
        have e27 : ρ (.tmp 27) = vs 8 := by rw [← hρ]; kernel_rfl
        rw [d27] at e27; clear d27
        have d29 : (vs 10) = .int .u8 x.f3 := hV 10 (by kernel_rfl)
        have e29 : ρ (.tmp 29) = vs 10 := by rw [← hρ]; kernel_rfl
        rw [d29] at e29; clear d29
        have ef41 : ρ (.func 41) = .func (.func 41) #[] #[] := by rw [← hρ]; rfl
        clear hρ hV
        obtain ⟨v, hp⟩ := hS
        refine runs_call (f := 41) (args := #[.pointer (some ⟨w00.heap.size, 0, none⟩), .int .u8 x.f3]) (w' := w) ?_ ?_
        · go_simp
        · refine (pbyte_any w00.heap.size w00.heap.size (P ++ [x.f0] ++ [x.f1] ++ [x.f2]) v x.f3 w hp (Nat.le_refl _) (by have := HPL.out; first | (simp only [List.length_append, lowN_length, List.length_cons, List.length_nil]; omega) | omega)).mono ?_
          rintro e w5 ⟨v', rfl, h⟩
          exact ⟨_, rfl, ⟨hC.1.trans h.2.2.2, Nat.le_trans hC.2.1 h.2.1.1, pput_keep hp h hC.2.2 HGD.out (by decide)⟩, trivial, rfl, ⟨v', h.1⟩⟩
      case z8_1o12 =>
        intro vs w t hC ht1 ht2 hS hV
        rw [if_pos (by kernel_rfl)]
        generalize hρ : rho _ _ _ vs = ρ
        have e5 : ρ (.tmp 5) = .pointer (some ⟨gd, 0, none⟩) := by rw [← hρ]; kernel_rfl
        clear hρ hV
        refine runs_val (v := .pointer (some ⟨gd, 4, none⟩)) (w' := w) ?_ ⟨Below.refl _ _, rfl⟩
        clear ht1 ht2 hS hC
        go_simp <;> (first | exact IntWalk.u64_in _ (by omega) | exact IntWalk.u32_in _ (by omega) | exact IntWalk.u16_in _ (by omega) | exact IntWalk.u8_in _ (by omega) | exact IntWalk.i64_in _ (by omega) | skip)
      case z8_1o13 =>
        intro vs w t hC ht1 ht2 hS hV
        rw [if_pos (by kernel_rfl)]
        generalize hρ : rho _ _ _ vs = ρ
        have d31 : (vs 12) = .pointer (some ⟨gd, 4, none⟩) := hV 12 (by kernel_rfl)
        have e31 : ρ (.tmp 31) = vs 12 := by rw [← hρ]; kernel_rfl
        rw [d31] at e31; clear d31
        clear hρ hV
        have c0 := blk_cell hC.2.2 4
        refine runs_val (v := .int .i32 x.f4) (w' := w) ?_ ⟨Below.refl _ _, rfl⟩
        clear ht1 ht2 hS hC
        go_simp
      case z8_1o14 =>
        intro vs w t hC ht1 ht2 hS hV
        rw [if_pos (by kernel_rfl)]
        generalize hρ : rho _ _ _ vs = ρ
        have d32 : (vs 13) = .int .i32 x.f4 := hV 13 (by kernel_rfl)
        have e32 : ρ (.tmp 32) = vs 13 := by rw [← hρ]; kernel_rfl
        rw [d32] at e32; clear d32
        clear hρ hV
        have hx := HU4.out.2
        refine runs_val (v := .int .u32 (u4 : Int)) (w' := w) ?_ ⟨Below.refl _ _, rfl⟩
        clear ht1 ht2 hS hC
        rw [hx]
        go_simp
        exact IntKind.wrap_u32 _
      case z8_1o15 =>
        intro vs w hC hS hV
        replace hS : ∃ v, Pn w w00.heap.size w00.heap.size (P ++ [x.f0] ++ [x.f1] ++ [x.f2] ++ [x.f3]) v := hS
        rw [if_pos (by kernel_rfl)]
        generalize hρ : rho _ _ _ vs = ρ
        have d30 : (vs 11) = .pointer (some ⟨w00.heap.size, 0, none⟩) := hV 11 (by kernel_rfl)
        have e30 : ρ (.tmp 30) = vs 11 := by rw [← hρ]; kernel_rfl
        rw [d30] at e30; clear d30
        have d33 : (vs 14) = .int .u32 (u4 : Int) := hV 14 (by kernel_rfl)
        have e33 : ρ (.tmp 33) = vs 14 := by rw [← hρ]; kernel_rfl
        rw [d33] at e33; clear d33
        have ef42 : ρ (.func 42) = .func (.func 42) #[] #[] := by rw [← hρ]; rfl
        clear hρ hV
        obtain ⟨v, hp⟩ := hS
        refine runs_call (f := 42) (args := #[.pointer (some ⟨w00.heap.size, 0, none⟩), .int .u32 (u4 : Int)]) (w' := w) ?_ ?_
        · go_simp
        · refine (pword_any w00.heap.size w00.heap.size (P ++ [x.f0] ++ [x.f1] ++ [x.f2] ++ [x.f3]) v u4 HU4.out.1 w hp (Nat.le_refl _) (by have := HPL.out; first | (simp only [List.length_append, lowN_length, List.length_cons, List.length_nil]; omega) | omega)).mono ?_
          rintro e w5 ⟨v', rfl, h⟩
          exact ⟨_, rfl, ⟨hC.1.trans h.2.2.2, Nat.le_trans hC.2.1 h.2.1.1, pput_keep hp h hC.2.2 HGD.out (by decide)⟩, trivial, rfl, ⟨v', h.1⟩⟩
      case z8_1o16 =>
        intro vs w t hC ht1 ht2 hS hV
        rw [if_pos (by kernel_rfl)]
        generalize hρ : rho _ _ _ vs = ρ
        have e5 : ρ (.tmp 5) = .pointer (some ⟨gd, 0, none⟩) := by rw [← hρ]; kernel_rfl
        clear hρ hV
        refine runs_val (v := .pointer (some ⟨gd, 5, none⟩)) (w' := w) ?_ ⟨Below.refl _ _, rfl⟩
        clear ht1 ht2 hS hC
        go_simp <;> (first | exact IntWalk.u64_in _ (by omega) | exact IntWalk.u32_in _ (by omega) | exact IntWalk.u16_in _ (by omega) | exact IntWalk.u8_in _ (by omega) | exact IntWalk.i64_in _ (by omega) | skip)
      case z8_1o17 =>
        intro vs w t hC ht1 ht2 hS hV
        rw [if_pos (by kernel_rfl)]
        generalize hρ : rho _ _ _ vs = ρ
        have d35 : (vs 16) = .pointer (some ⟨gd, 5, none⟩) := hV 16 (by kernel_rfl)
        have e35 : ρ (.tmp 35) = vs 16 := by rw [← hρ]; kernel_rfl
        rw [d35] at e35; clear d35
        clear hρ hV
        have c0 : w.cell? ⟨gd, 5, none⟩ = some (.int .u32 (u5 : Int)) := by rw [← HU5.out.2]; exact blk_cell hC.2.2 5
        refine runs_val (v := .int .u32 (u5 : Int)) (w' := w) ?_ ⟨Below.refl _ _, rfl⟩
        clear ht1 ht2 hS hC
        go_simp
      case z8_1o18 =>
        intro vs w hC hS hV
        replace hS : ∃ v, Pn w w00.heap.size w00.heap.size (P ++ [x.f0] ++ [x.f1] ++ [x.f2] ++ [x.f3] ++ lowN u4 4) v := hS
        rw [if_pos (by kernel_rfl)]
        generalize hρ : rho _ _ _ vs = ρ
        have d34 : (vs 15) = .pointer (some ⟨w00.heap.size, 0, none⟩) := hV 15 (by kernel_rfl)
        have e34 : ρ (.tmp 34) = vs 15 := by rw [← hρ]; kernel_rfl
        rw [d34] at e34; clear d34
        have d36 : (vs 17) = .int .u32 (u5 : Int) := hV 17 (by kernel_rfl)
        have e36 : ρ (.tmp 36) = vs 17 := by rw [← hρ]; kernel_rfl
        rw [d36] at e36; clear d36
        have ef42 : ρ (.func 42) = .func (.func 42) #[] #[] := by rw [← hρ]; rfl
        clear hρ hV
        obtain ⟨v, hp⟩ := hS
        refine runs_call (f := 42) (args := #[.pointer (some ⟨w00.heap.size, 0, none⟩), .int .u32 (u5 : Int)]) (w' := w) ?_ ?_
        · go_simp
        · refine (pword_any w00.heap.size w00.heap.size (P ++ [x.f0] ++ [x.f1] ++ [x.f2] ++ [x.f3] ++ lowN u4 4) v u5 HU5.out.1 w hp (Nat.le_refl _) (by have := HPL.out; first | (simp only [List.length_append, lowN_length, List.length_cons, List.length_nil]; omega) | omega)).mono ?_
          rintro e w5 ⟨v', rfl, h⟩
          exact ⟨_, rfl, ⟨hC.1.trans h.2.2.2, Nat.le_trans hC.2.1 h.2.1.1, pput_keep hp h hC.2.2 HGD.out (by decide)⟩, trivial, rfl, ⟨v', h.1⟩⟩
      case z8_1e =>
        intro vs V2 hC hS hV
        replace hS : (fun (w : World) => ∃ v, Pn w w00.heap.size w00.heap.size (P ++ [x.f0] ++ [x.f1] ++ [x.f2] ++ [x.f3] ++ lowN u4 4 ++ lowN u5 4) v) V2 := hS
        have d19 : (vs 0) = .pointer (some ⟨gd, 0, none⟩) := hV 0 (Nat.le_of_ble_eq_true rfl)
        have d20 : (vs 1) = .int .u8 x.f0 := hV 1 (Nat.le_of_ble_eq_true rfl)
        have d21 : (vs 2) = .pointer (some ⟨w00.heap.size, 0, none⟩) := hV 2 (Nat.le_of_ble_eq_true rfl)
        have d22 : (vs 3) = .pointer (some ⟨gd, 1, none⟩) := hV 3 (Nat.le_of_ble_eq_true rfl)
        have d23 : (vs 4) = .int .u8 x.f1 := hV 4 (Nat.le_of_ble_eq_true rfl)
        have d24 : (vs 5) = .pointer (some ⟨w00.heap.size, 0, none⟩) := hV 5 (Nat.le_of_ble_eq_true rfl)
        have d25 : (vs 6) = .pointer (some ⟨gd, 2, none⟩) := hV 6 (Nat.le_of_ble_eq_true rfl)
        have d26 : (vs 7) = .int .u8 x.f2 := hV 7 (Nat.le_of_ble_eq_true rfl)
        have d27 : (vs 8) = .pointer (some ⟨w00.heap.size, 0, none⟩) := hV 8 (Nat.le_of_ble_eq_true rfl)
        have d28 : (vs 9) = .pointer (some ⟨gd, 3, none⟩) := hV 9 (Nat.le_of_ble_eq_true rfl)
        have d29 : (vs 10) = .int .u8 x.f3 := hV 10 (Nat.le_of_ble_eq_true rfl)
        have d30 : (vs 11) = .pointer (some ⟨w00.heap.size, 0, none⟩) := hV 11 (Nat.le_of_ble_eq_true rfl)
        have d31 : (vs 12) = .pointer (some ⟨gd, 4, none⟩) := hV 12 (Nat.le_of_ble_eq_true rfl)
        have d32 : (vs 13) = .int .i32 x.f4 := hV 13 (Nat.le_of_ble_eq_true rfl)
        have d33 : (vs 14) = .int .u32 (u4 : Int) := hV 14 (Nat.le_of_ble_eq_true rfl)
        have d34 : (vs 15) = .pointer (some ⟨w00.heap.size, 0, none⟩) := hV 15 (Nat.le_of_ble_eq_true rfl)
        have d35 : (vs 16) = .pointer (some ⟨gd, 5, none⟩) := hV 16 (Nat.le_of_ble_eq_true rfl)
        have d36 : (vs 17) = .int .u32 (u5 : Int) := hV 17 (Nat.le_of_ble_eq_true rfl)
        have d37 : (vs 18) = .pointer (some ⟨w00.heap.size, 0, none⟩) := hV 18 (Nat.le_of_ble_eq_true rfl)
        clear hV
        simp only [putAll]
        rw [d19, d20, d21, d22, d23, d24, d25, d26, d27, d28, d29, d30, d31, d32, d33, d34, d35, d36, d37]
        clear d19 d20 d21 d22 d23 d24 d25 d26 d27 d28 d29 d30 d31 d32 d33 d34 d35 d36 d37
        clear vs
        simp only [Act.put, List.setIfInBounds_toArray, List.set_cons_zero, List.set_cons_succ]
        have HPN : Aside0 (∃ v, Pn V2 w00.heap.size w00.heap.size ([(l.length : Int)] ++ (l.take (i + 1)).flatMap cB) v) := ⟨by rw [HE.out]; exact hS⟩
        have HBN := Aside0.mk hC.1
        clear hS hC
        go_wp2_with fail
        exact ⟨⟨i + 1, by omega, by congr 1, HPN, HBN⟩, by simp only [intV]; omega⟩
    · obtain rfl : i = l.length := by omega
      rw [List.take_of_length_le (Nat.le_refl _)] at HP
      obtain ⟨v0, hp0⟩ := HP.out
      have hln : ([(l.length : Int)] ++ l.flatMap cB).length ≤ 1000000 := by rw [List.length_append, flat_len]; simp; omega
      have KB := Aside0.mk (pbytes_any w00.heap.size w00.heap.size _ v0 wr hp0 hln)
      clear hp0 hln HP
      go_wp2_with (first | (go_at_call 43; refine KB.out.mono ?_; rintro e w5 ⟨vo, rfl, hR, hb⟩; have HRR := Aside0.mk (Kd.R_lower hR HBR.out.size); replace HBR := Aside0.mk (bel_t8 HBR.out hb); clear hb hR))
      go_ret
      exact ⟨_, rfl, HRR.out, HBR.out⟩
end Go.Proofs.YthimlgkegobaeaaDoor
