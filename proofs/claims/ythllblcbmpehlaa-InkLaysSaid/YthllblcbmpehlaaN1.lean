/- The walk of InkParts. -/
import Derived.Test.YthllblcbmpehlaaNh
namespace Go.Proofs.Ythllblcbmpehlaa
open Go.RowKit Go.Proofs.YthllblcbmpehlaaW.PrintWords Go.Proofs.YthllblcbmpehlaaW.PrintLast Go.Proofs.YthllblcbmpehlaaW.PrintMore
set_option linter.unusedVariables false
set_option linter.unusedSimpArgs false

def layAll (L : List S30) : List Int := (L.map layN).flatten
theorem layAll_take {L : List S30} {i : Nat} (h : i < L.length) : layAll (L.take (i + 1)) = layAll (L.take i) ++ layN L[i] := by
  unfold layAll
  rw [take_snoc h, List.map_append, List.flatten_append]; simp
theorem layAll_le {L : List S30} (h : ∀ x ∈ L, Fd x ∧ x.f2.length ≤ 40) : (layAll L).length ≤ 50 * L.length := by
  induction L with
  | nil => simp [layAll]
  | cons x l ih =>
    have h1 := ih (fun y hy => h y (List.mem_cons_of_mem _ hy))
    have h2 := h x (by simp)
    have h3 := layN_length x h2.1 (by omega)
    unfold layAll at h1 ⊢
    simp only [List.map_cons, List.flatten_cons, List.length_append, List.length_cons]
    omega
theorem layAll_take_le {L : List S30} (h : ∀ x ∈ L, Fd x ∧ x.f2.length ≤ 40) (hl : L.length ≤ 12) (i : Nat) : (layAll (L.take i)).length ≤ 600 := by
  have h1 := layAll_le (L := L.take i) (fun x hx => h x (List.mem_of_mem_take hx))
  rw [List.length_take] at h1
  omega
/-- Three pens. -/
def Pens (W wr : World) (b ga gb gc : Nat) (pa pb pc : List Int) (va vb vc : Value) : Prop :=
  Pn wr b ga pa va ∧ Pn wr b gb pb vb ∧ Pn wr b gc pc vc ∧ Ap va vb ∧ Ap va vc ∧ Ap vb vc ∧ Below b W wr
theorem Pens.putA {W wr w' : World} {b ga gb gc : Nat} {pa pb pc pa' : List Int} {va vb vc va' : Value} (h : Pens W wr b ga gb gc pa pb pc va vb vc) (hp : PPut wr w' b ga va pa' va') (h1 : gb ≠ ga) (h2 : gc ≠ ga) : Pens W w' b ga gb gc pa' pb pc va' vb vc := by
  obtain ⟨a, b', c, d, e, f, g⟩ := h
  obtain ⟨x1, x2⟩ := hp.pair a b' h1 d.symm
  obtain ⟨y1, y2⟩ := hp.pair a c h2 e.symm
  exact ⟨hp.1, x1, y1, x2.symm, y2.symm, f, g.trans hp.2.2.2⟩
theorem Pens.putB {W wr w' : World} {b ga gb gc : Nat} {pa pb pc pb' : List Int} {va vb vc vb' : Value} (h : Pens W wr b ga gb gc pa pb pc va vb vc) (hp : PPut wr w' b gb vb pb' vb') (h1 : gb ≠ ga) (h2 : gc ≠ gb) : Pens W w' b ga gb gc pa pb' pc va vb' vc := by
  obtain ⟨a, b', c, d, e, f, g⟩ := h
  obtain ⟨x1, x2⟩ := hp.pair b' a (Ne.symm h1) d
  obtain ⟨y1, y2⟩ := hp.pair b' c h2 f.symm
  exact ⟨x1, hp.1, y1, x2, e, y2.symm, g.trans hp.2.2.2⟩
theorem Pens.putC {W wr w' : World} {b ga gb gc : Nat} {pa pb pc pc' : List Int} {va vb vc vc' : Value} (h : Pens W wr b ga gb gc pa pb pc va vb vc) (hp : PPut wr w' b gc vc pc' vc') (h1 : gc ≠ ga) (h2 : gc ≠ gb) : Pens W w' b ga gb gc pa pb pc' va vb vc' := by
  obtain ⟨a, b', c, d, e, f, g⟩ := h
  obtain ⟨x1, x2⟩ := hp.pair c a (Ne.symm h1) e
  obtain ⟨y1, y2⟩ := hp.pair c b' (Ne.symm h2) f
  exact ⟨x1, y1, hp.1, d, x2, y2, g.trans hp.2.2.2⟩
theorem Pens.below {W wr w' : World} {b ga gb gc : Nat} {pa pb pc : List Int} {va vb vc : Value} (h : Pens W wr b ga gb gc pa pb pc va vb vc) (hg : b ≤ ga) (hb : Below wr.heap.size wr w') : Pens W w' b ga gb gc pa pb pc va vb vc := by
  obtain ⟨a, b', c, d, e, f, g⟩ := h
  exact ⟨a.below hb, b'.below hb, c.below hb, d, e, f, g.trans (hb.mono (Nat.le_trans hg (Nat.le_of_lt a.lt)))⟩

set_option maxRecDepth 100000 in
set_option maxHeartbeats 8000000 in
theorem parts_walk (A : Option Addr) (len c : Nat) (l : List S30) (A2 : Option Addr) (len2 c2 : Nat) (m : List S30) (w : World) (hr : k30.C w A len l) (hc : len ≤ c) (hf : ∀ x ∈ l, Fd x ∧ x.f2.length ≤ 9223372036854775807) (hr2 : k30.C w A2 len2 m) (hc2 : len2 ≤ c2) (hf2 : ∀ x ∈ m, Fd x ∧ x.f2.length ≤ 9223372036854775807) :
    Calls Try.prog 3 #[.slice A len c, .slice A2 len2 c2] w fun e w' => e = .returned (.bool true) ∧ Below w.heap.size w w' := by
  have HR := Aside0.mk hr
  have HR2 := Aside0.mk hr2
  have HF := Aside0.mk hf
  have HF2 := Aside0.mk hf2
  have HC := Aside0.mk hc
  have HC2 := Aside0.mk hc2
  clear hr hr2 hf hf2 hc hc2
  go_enter Try.func3, Try.ntmps3
  go_wp2_with fail
  refine (awake_any _).mono ?_
  rintro e w1 ⟨rfl, hb1⟩
  have HB1 := Aside0.mk hb1
  have HR1 := Aside0.mk (Kd.C_below HR.out hb1)
  have HR21 := Aside0.mk (Kd.C_below HR2.out hb1)
  clear hb1 HR HR2
  go_wp2_with fail
  refine (few_any _ _ _ l _ HR1.out HC.out (fun x hx => (HF.out x hx).2)).mono ?_
  rintro e w2 ⟨v2, rfl, hv2, hb2⟩
  obtain ⟨L, hL⟩ : ∃ L, fewN l = L := ⟨_, rfl⟩
  have HFL := Aside0.mk (fewN_mem (fun x hx => (HF.out x hx).1))
  have HLL := Aside0.mk (fewN_length l)
  rw [hL] at hv2 HFL HLL
  obtain ⟨Q, d, hv⟩ := Kd.R_slice hv2
  obtain ⟨n, hn⟩ : ∃ n, L.length = n := ⟨_, rfl⟩
  rw [hn] at hv HLL
  subst hv
  obtain ⟨r1, r2, r3⟩ := Rn_C hv2
  have HB2 := Aside0.mk (below_step HB1.out hb2)
  have HC3 := Aside0.mk r3
  have HN := Aside0.mk hn
  have HR3 := Aside0.mk (Kd.C_below HR21.out hb2)
  clear hv2 hb2 hL hn r1 r2 r3 HR1 HR21 HB1 HC HF
  go_wp2_with fail
  refine (few_any _ _ _ m _ HR3.out HC2.out (fun x hx => (HF2.out x hx).2)).mono ?_
  rintro e w3 ⟨v3, rfl, hv3, hb3⟩
  obtain ⟨M, hM⟩ : ∃ M, fewN m = M := ⟨_, rfl⟩
  have HFM := Aside0.mk (fewN_mem (fun x hx => (HF2.out x hx).1))
  have HML := Aside0.mk (fewN_length m)
  rw [hM] at hv3 HFM HML
  obtain ⟨Q2, d2, hv⟩ := Kd.R_slice hv3
  obtain ⟨n2, hn2⟩ : ∃ n2, M.length = n2 := ⟨_, rfl⟩
  rw [hn2] at hv HML
  subst hv
  obtain ⟨r1, r2, r3⟩ := Rn_C hv3
  have HB3 := Aside0.mk (below_step HB2.out hb3)
  have HC4 := Aside0.mk (Kd.C_below HC3.out hb3)
  have HD4 := Aside0.mk r3
  have HN2 := Aside0.mk hn2
  clear hv3 hb3 hM hn2 r1 r2 r3 HR3 HB2 HC3 HF2 HC2
  obtain ⟨b, hb⟩ : ∃ b, w3.heap.size = b := ⟨_, rfl⟩
  have q1 : ((((w3.alloc (.cells #[.slice none 0 0] 27)).alloc (.cells #[.slice none 0 0] 27)).alloc (.cells #[.slice none 0 0] 27))).heap[b]? = some (.cells #[.slice none 0 0] 27 (0, 0)) := by rw [← hb]; exact blk_alloc (blk_alloc (blk_new _ _) _) _
  have q2 : ((((w3.alloc (.cells #[.slice none 0 0] 27)).alloc (.cells #[.slice none 0 0] 27)).alloc (.cells #[.slice none 0 0] 27))).heap[b + 1]? = some (.cells #[.slice none 0 0] 27 (0, 0)) := by rw [← hb]; simpa using blk_alloc (blk_new (w3.alloc (.cells #[.slice none 0 0] 27)) _) (.cells #[.slice none 0 0] 27)
  have q3 : ((((w3.alloc (.cells #[.slice none 0 0] 27)).alloc (.cells #[.slice none 0 0] 27)).alloc (.cells #[.slice none 0 0] 27))).heap[b + 1 + 1]? = some (.cells #[.slice none 0 0] 27 (0, 0)) := by rw [← hb]; simpa using blk_new ((w3.alloc (.cells #[.slice none 0 0] 27)).alloc (.cells #[.slice none 0 0] 27)) (.cells #[.slice none 0 0] 27)
  have hb4 : Below b w3 (((w3.alloc (.cells #[.slice none 0 0] 27)).alloc (.cells #[.slice none 0 0] 27)).alloc (.cells #[.slice none 0 0] 27)) := by rw [← hb]; exact below_alloc (below_alloc (below_alloc (Below.refl _ _) _) _) _
  go_wp2_with fail
  (try rw [hb])
  generalize ((w3.alloc (.cells #[.slice none 0 0] 27)).alloc (.cells #[.slice none 0 0] 27)).alloc (.cells #[.slice none 0 0] 27) = w4 at *
  have H0 : Aside0 (Pens w3 w4 b b (b + 1) (b + 1 + 1) [] [] [] (.slice none 0 0) (.slice none 0 0) (.slice none 0 0)) := ⟨⟨pen_new q1, pen_new q2, pen_new q3, Ap.nil _, Ap.nil _, Ap.nil _, hb4⟩⟩
  have HBE := Aside0.mk hb
  obtain ⟨gb, hgb⟩ : ∃ gb, b + 1 = gb := ⟨_, rfl⟩
  obtain ⟨gc, hgc⟩ : ∃ gc, gb + 1 = gc := ⟨_, rfl⟩
  rw [hgb, hgc] at H0
  (try rw [hgb])
  (try rw [hgc])
  have HGB := Aside0.mk hgb
  have HGC := Aside0.mk hgc
  clear q1 q2 q3 hb4 hb hgb hgc
  go_loopw [21] (fun v21 wr => ∃ (i : Nat) (va vb vc : Value), i ≤ n ∧ v21 = .int .i64 i ∧ Aside0 (Pens w3 wr b b gb gc (layAll (L.take i)) [] (layAll (L.take i)) va vb vc)) (fun v21 _ => n - (intOf v21).toNat)
  case atStart => exact ⟨0, _, _, _, by omega, rfl, ⟨by simpa [layAll] using H0.out⟩⟩
  case round =>
    clear H0
    obtain ⟨i, va, vb, vc, hi, rfl, H⟩ := hrel
    have hmx : n ≤ 12 := HLL.out
    have hlen : L.length = n := HN.out
    by_cases hlt : i < n
    · have HW := Aside0.mk (H.out.2.2.2.2.2.2)
      obtain ⟨ad, B, cB, hA, x0, x1, x2, x3, hxc, hxd⟩ := field_at (Kd.C_below HC4.out (HW.out.mono (Nat.le_of_eq HBE.out))) i (by omega)
      obtain ⟨ad0, B0, cB0, hA0, y0, y1, y2, y3, hyc, hyd⟩ := field_at HC4.out i (by omega)
      have hmem := HFL.out _ (List.getElem_mem (show i < L.length by omega))
      have hst := layAll_take (L := L) (i := i) (by omega)
      have hple := layAll_take_le HFL.out (by omega) i
      generalize L[i]'(by omega) = x at *
      subst hA
      obtain rfl := Option.some.inj hA0
      have hBB : Value.slice B0 x.f2.length cB0 = Value.slice B x.f2.length cB := by
        have := pw_cell_below (HW.out.mono (Nat.le_of_eq HBE.out)) y2
        rw [x2] at this
        exact (Option.some.inj this).symm
      injection hBB with e1 _ e2
      subst e1 e2
      have HYD := Aside0.mk hyd
      have HMEM := Aside0.mk hmem
      have HST := Aside0.mk hst
      have hal := below_alloc (Below.refl wr.heap.size wr) (.cells #[.int .u8 x.f0, .int .u64 x.f1, .slice B0 x.f2.length cB0, .int .u64 x.f3] 30)
      have hPA := H.out.below (Nat.le_refl _) hal
      have hq := fun (w' w'' : World) (h1 : Below b w3 w') (h2 : Below b w' w'') => Kd.C_below HYD.out ((h1.trans h2).mono (Nat.le_of_eq HBE.out))
      have hblk := blk_new wr (.cells #[.int .u8 x.f0, .int .u64 x.f1, .slice B0 x.f2.length cB0, .int .u64 x.f3] 30)
      have K1 := Aside0.mk (lay_any b b (layAll (L.take i)) va x B0 cB0 _ HMEM.out.1 hPA.1 (Nat.le_refl _) (by have := HMEM.out.2; omega) (fun w' _ h2 => hq _ w' hPA.2.2.2.2.2.2 h2))
      have K2 := Aside0.mk (fun (w5 : World) (h5 : Pn w5 b gc (layAll (L.take i)) vc) (hb5 : Below b w3 w5) => lay_any b gc (layAll (L.take i)) vc x B0 cB0 w5 HMEM.out.1 h5 (by have := HGB.out; have := HGC.out; omega) (by have := HMEM.out.2; omega) (fun w' _ h2 => hq _ w' hb5 h2))
      have HPA := Aside0.mk hPA
      have HQ := Aside0.mk hq
      have HPL := Aside0.mk hple
      have HBK := Aside0.mk hblk
      have HNE := Aside0.mk (show wr.heap.size ≠ b ∧ b < wr.heap.size ∧ gb < wr.heap.size ∧ gc < wr.heap.size from ⟨by have := H.out.1.lt; omega, H.out.1.lt, H.out.2.1.lt, H.out.2.2.1.lt⟩)
      have HRO := Aside0.mk (show ∀ k, va.ownBlock = some k → k < wr.heap.size from H.out.1.own)
      have HRC := Aside0.mk (show ∀ k, vc.ownBlock = some k → k < wr.heap.size from H.out.2.2.1.own)
      have d1 : decide (i < n) = true := decide_eq_true hlt
      obtain ⟨f0, f1, f2, f3⟩ := x
      simp only at x0 x1 x2 x3 K1 K2 HBK HPA HST HMEM HQ
      generalize f2.length = fl at *
      clear hyd hmem hst hal hPA hq hblk hxc hxd hyc y0 y1 y2 y3 hple H hlen
      go_wp2_with fail
      refine K1.out.mono ?_
      rintro e w5 ⟨v1, rfl, h⟩
      have hP5 := Pens.putA HPA.out h (by have := HGB.out; omega) (by have := HGB.out; have := HGC.out; omega)
      have hblk : w5.heap[wr.heap.size]? = some (.cells #[.int .u8 f0, .int .u64 f1, .slice B0 fl cB0, .int .u64 f3] 30 (0, 0)) := (h.2.1.2 _ (blk_lt HBK.out) HNE.out.1 (fun e => absurd (HRO.out _ e.symm) (Nat.lt_irrefl _))).trans HBK.out
      have z0 := blk_cell hblk 0
      have z1 := blk_cell hblk 1
      have z2 := blk_cell hblk 2
      have z3 := blk_cell hblk 3
      have K3 := Aside0.mk (K2.out w5 hP5.2.2.1 hP5.2.2.2.2.2.2)
      have HP5 := Aside0.mk hP5
      clear h hP5 K1 K2 HPA hblk HBK x0 x1 x2 x3
      go_wp2_with fail
      refine K3.out.mono ?_
      rintro e w6 ⟨v2, rfl, h⟩
      have hP6 := Pens.putC HP5.out h (by have := HGB.out; have := HGC.out; omega) (by have := HGB.out; have := HGC.out; omega)
      rw [← HST.out] at hP6
      have HP6 := Aside0.mk hP6
      clear h hP6 K3 HP5 z0 z1 z2 z3 HQ HMEM HYD
      go_wp2_with fail
      go_roundw
      case rel => exact ⟨i + 1, _, _, _, by omega, by go_num, HP6⟩
      case measure => simp [intOf]; omega
    · have hn : i = n := by omega
      have H1 : Aside0 (Pens w3 wr b b gb gc (layAll L) [] (layAll L) va vb vc) := by
        have := H.out
        rw [List.take_of_length_le (by omega)] at this
        exact ⟨this⟩
      have d1 : decide (i < n) = false := decide_eq_false hlt
      clear H hn hmx hlen hlt hi
      generalize wr = wq1 at *
      have HLA : Aside0 ((layAll L).length ≤ 600) := ⟨by have := layAll_take_le HFL.out (by rw [HN.out]; exact HLL.out) L.length; rwa [List.take_of_length_le (Nat.le_refl _)] at this⟩
      go_wp2_with fail
      go_loopw [32] (fun v21 wr => ∃ (i : Nat) (va vb vc : Value), i ≤ n2 ∧ v21 = .int .i64 i ∧ Aside0 (Pens w3 wr b b gb gc (layAll L) (layAll (M.take i)) (layAll L ++ layAll (M.take i)) va vb vc)) (fun v21 _ => n2 - (intOf v21).toNat)
      case atStart => exact ⟨0, _, _, _, by omega, rfl, ⟨by simpa [layAll] using H1.out⟩⟩
      case round =>
        clear H1
        obtain ⟨i, va, vb, vc, hi, rfl, H⟩ := hrel
        have hmx : n2 ≤ 12 := HML.out
        have hlen : M.length = n2 := HN2.out
        by_cases hlt : i < n2
        · have HW := Aside0.mk (H.out.2.2.2.2.2.2)
          obtain ⟨ad, B, cB, hA, x0, x1, x2, x3, hxc, hxd⟩ := field_at (Kd.C_below HD4.out (HW.out.mono (Nat.le_of_eq HBE.out))) i (by omega)
          obtain ⟨ad0, B0, cB0, hA0, y0, y1, y2, y3, hyc, hyd⟩ := field_at HD4.out i (by omega)
          have hmem := HFM.out _ (List.getElem_mem (show i < M.length by omega))
          have hst := layAll_take (L := M) (i := i) (by omega)
          have hple := layAll_take_le HFM.out (by omega) i
          generalize M[i]'(by omega) = x at *
          subst hA
          obtain rfl := Option.some.inj hA0
          have hBB : Value.slice B0 x.f2.length cB0 = Value.slice B x.f2.length cB := by
            have := pw_cell_below (HW.out.mono (Nat.le_of_eq HBE.out)) y2
            rw [x2] at this
            exact (Option.some.inj this).symm
          injection hBB with e1 _ e2
          subst e1 e2
          have HYD := Aside0.mk hyd
          have HMEM := Aside0.mk hmem
          have HST := Aside0.mk hst
          have hal := below_alloc (Below.refl wr.heap.size wr) (.cells #[.int .u8 x.f0, .int .u64 x.f1, .slice B0 x.f2.length cB0, .int .u64 x.f3] 30)
          have hPA := H.out.below (Nat.le_refl _) hal
          have hq := fun (w' w'' : World) (h1 : Below b w3 w') (h2 : Below b w' w'') => Kd.C_below HYD.out ((h1.trans h2).mono (Nat.le_of_eq HBE.out))
          have hblk := blk_new wr (.cells #[.int .u8 x.f0, .int .u64 x.f1, .slice B0 x.f2.length cB0, .int .u64 x.f3] 30)
          have K1 := Aside0.mk (lay_any b gb (layAll (M.take i)) vb x B0 cB0 _ HMEM.out.1 hPA.2.1 (by have := HGB.out; omega) (by have := HMEM.out.2; omega) (fun w' _ h2 => hq _ w' hPA.2.2.2.2.2.2 h2))
          have K2 := Aside0.mk (fun (w5 : World) (h5 : Pn w5 b gc (layAll L ++ layAll (M.take i)) vc) (hb5 : Below b w3 w5) => lay_any b gc (layAll L ++ layAll (M.take i)) vc x B0 cB0 w5 HMEM.out.1 h5 (by have := HGB.out; have := HGC.out; omega) (by have := HMEM.out.2; rw [List.length_append]; have := HLA.out; omega) (fun w' _ h2 => hq _ w' hb5 h2))
          have HPA := Aside0.mk hPA
          have HQ := Aside0.mk hq
          have HPL := Aside0.mk hple
          have HBK := Aside0.mk hblk
          have HNE := Aside0.mk (show wr.heap.size ≠ gb ∧ b < wr.heap.size ∧ gb < wr.heap.size ∧ gc < wr.heap.size from ⟨by have := H.out.2.1.lt; omega, H.out.1.lt, H.out.2.1.lt, H.out.2.2.1.lt⟩)
          have HRO := Aside0.mk (show ∀ k, vb.ownBlock = some k → k < wr.heap.size from H.out.2.1.own)
          have HRC := Aside0.mk (show ∀ k, vc.ownBlock = some k → k < wr.heap.size from H.out.2.2.1.own)
          have d1 : decide (i < n2) = true := decide_eq_true hlt
          obtain ⟨f0, f1, f2, f3⟩ := x
          simp only at x0 x1 x2 x3 K1 K2 HBK HPA HST HMEM HQ
          generalize f2.length = fl at *
          clear hyd hmem hst hal hPA hq hblk hxc hxd hyc y0 y1 y2 y3 hple H hlen
          go_wp2_with fail
          refine K1.out.mono ?_
          rintro e w5 ⟨v1, rfl, h⟩
          have hP5 := Pens.putB HPA.out h (by have := HGB.out; omega) (by have := HGB.out; have := HGC.out; omega)
          have hblk : w5.heap[wr.heap.size]? = some (.cells #[.int .u8 f0, .int .u64 f1, .slice B0 fl cB0, .int .u64 f3] 30 (0, 0)) := (h.2.1.2 _ (blk_lt HBK.out) HNE.out.1 (fun e => absurd (HRO.out _ e.symm) (Nat.lt_irrefl _))).trans HBK.out
          have z0 := blk_cell hblk 0
          have z1 := blk_cell hblk 1
          have z2 := blk_cell hblk 2
          have z3 := blk_cell hblk 3
          have K3 := Aside0.mk (K2.out w5 hP5.2.2.1 hP5.2.2.2.2.2.2)
          have HP5 := Aside0.mk hP5
          clear h hP5 K1 K2 HPA hblk HBK x0 x1 x2 x3
          go_wp2_with fail
          refine K3.out.mono ?_
          rintro e w6 ⟨v2, rfl, h⟩
          have hP6 := Pens.putC HP5.out h (by have := HGB.out; have := HGC.out; omega) (by have := HGB.out; have := HGC.out; omega)
          rw [List.append_assoc, ← HST.out] at hP6
          have HP6 := Aside0.mk hP6
          clear h hP6 K3 HP5 z0 z1 z2 z3 HQ HMEM HYD
          go_wp2_with fail
          go_roundw
          case rel => exact ⟨i + 1, _, _, _, by omega, by go_num, HP6⟩
          case measure => simp [intOf]; omega
        · have hn : i = n2 := by omega
          have H1 : Aside0 (Pens w3 wr b b gb gc (layAll L) (layAll M) (layAll L ++ layAll M) va vb vc) := by
            have := H.out
            rw [List.take_of_length_le (by omega)] at this
            exact ⟨this⟩
          have d1 : decide (i < n2) = false := decide_eq_false hlt
          clear H hn hmx hlen hlt hi
          generalize wr = wq2 at *
          have HLB : Aside0 ((layAll M).length ≤ 600) := ⟨by have := layAll_take_le HFM.out (by rw [HN2.out]; exact HML.out) M.length; rwa [List.take_of_length_le (Nat.le_refl _)] at this⟩
          clear HC4 HD4 HN HN2 HFL HFM HLL HML
          go_wp2_with fail
          refine (pbytes_any b b (layAll L) va _ H1.out.1 (by have := HLA.out; omega)).mono ?_
          rintro e u1 ⟨x1, rfl, ho1, hb1⟩
          obtain ⟨X1, e1, hv⟩ := Kd.R_slice ho1
          obtain ⟨la, hla⟩ : ∃ la, (layAll L).length = la := ⟨_, rfl⟩
          rw [hla] at hv
          subst hv
          obtain ⟨r1, r2, r3⟩ := Rn_C ho1
          have H2 := Aside0.mk (H1.out.below (Nat.le_refl _) hb1)
          have C1 := Aside0.mk r3
          have D1 := Aside0.mk r2
          clear ho1 hb1 hla r1 r2 r3 H1
          go_wp2_with fail
          refine (pbytes_any b gb (layAll M) vb _ H2.out.2.1 (by have := HLB.out; omega)).mono ?_
          rintro e u2 ⟨x2, rfl, ho2, hb2⟩
          obtain ⟨X2, e2, hv⟩ := Kd.R_slice ho2
          obtain ⟨lb, hlb⟩ : ∃ lb, (layAll M).length = lb := ⟨_, rfl⟩
          rw [hlb] at hv
          subst hv
          obtain ⟨r1, r2, r3⟩ := Rn_C ho2
          have hal := below_alloc (Below.refl u2.heap.size u2) (.cells #[.slice X1 la e1, .slice X2 lb e2] 25)
          have H3 := Aside0.mk ((H2.out.below (Nat.le_refl _) hb2).below (Nat.le_refl _) hal)
          have hj := C_of_two (e := 5) (blk_new u2 (.cells #[.slice X1 la e1, .slice X2 lb e2] 25)) (Kd.C_below (Kd.C_below C1.out hb2) hal) D1.out (Kd.C_below r3 hal) r2
          have KJ := Aside0.mk (join_any _ 2 2 [layAll L, layAll M] _ hj (Nat.le_refl _) (by have := HLA.out; have := HLB.out; simp; omega))
          have HFJ : Aside0 ([layAll L, layAll M].flatten = layAll L ++ layAll M) := ⟨by simp⟩
          rw [HFJ.out] at KJ
          clear ho2 hb2 hlb r1 r2 r3 H2 C1 D1 hal hj
          go_wp2_with fail
          refine KJ.out.mono ?_
          rintro e u3 ⟨x3, rfl, ho3, hb3⟩
          obtain ⟨X3, e3, hv⟩ := Kd.R_slice ho3
          obtain ⟨q, hq⟩ : ∃ q, layAll L ++ layAll M = q := ⟨_, rfl⟩
          have HQL : Aside0 (q.length ≤ 1200) := ⟨by rw [← hq, List.length_append]; have := HLA.out; have := HLB.out; omega⟩
          have H4 := Aside0.mk (H3.out.below (Nat.le_refl _) hb3)
          rw [hq] at hv ho3 H4
          obtain ⟨lc, hlc⟩ : ∃ lc, q.length = lc := ⟨_, rfl⟩
          rw [hlc] at hv
          subst hv
          obtain ⟨r1, r2, r3⟩ := Rn_C ho3
          have C3 := Aside0.mk r3
          have D3 := Aside0.mk r2
          have HLC := Aside0.mk hlc
          clear ho3 hb3 hlc r1 r2 r3 H3 KJ HFJ hq
          go_wp2_with fail
          refine (pbytes_any b gc q vc _ H4.out.2.2.1 (by have := HQL.out; omega)).mono ?_
          rintro e u4 ⟨x4, rfl, ho4, hb4⟩
          obtain ⟨X4, e4, hv⟩ := Kd.R_slice ho4
          rw [HLC.out] at hv
          subst hv
          obtain ⟨r1, r2, r3⟩ := Rn_C ho4
          have C4 := Aside0.mk r3
          have D4 := Aside0.mk r2
          have C5 := Aside0.mk (Kd.C_below C3.out hb4)
          have B4 := Aside0.mk (H4.out.below (Nat.le_refl _) hb4).2.2.2.2.2.2
          clear ho4 hb4 r1 r2 r3 H4 C3
          go_wp2_with fail
          refine (same_is true _ _ _ _ _ _ _ _ _ C5.out D3.out C4.out D4.out (by simp)).mono ?_
          rintro e u5 ⟨rfl, nd, rfl⟩
          have C6 := Aside0.mk (Kd.C_drewN C5.out nd)
          have B5 := Aside0.mk (pw_below_drewN B4.out nd)
          clear C4 C5 B4
          generalize u4.drewN nd = u5 at *
          go_wp2_with fail
          refine (read_any _ _ _ _ _ C6.out (by have := HQL.out; have := HLC.out; omega)).mono ?_
          rintro e u6 ⟨g6, rfl, hg, hE, hb6⟩
          have KL := Aside0.mk (left_any g6 _ _ _ u6 hE)
          rw [HLC.out] at KL
          have B6 := Aside0.mk (HB3.out.trans ((B5.out.trans (hb6.mono (by have := B5.out.size; have := HBE.out; omega))).mono (by have := HBE.out; have := HB3.out.size; omega)))
          clear hg hE hb6 B5 C6
          go_wp2_with fail
          refine KL.out.mono ?_
          rintro e u7 ⟨rfl, rfl⟩
          clear KL
          go_wp2_with fail
          go_ret
          exact ⟨rfl, B6.out⟩
end Go.Proofs.Ythllblcbmpehlaa
