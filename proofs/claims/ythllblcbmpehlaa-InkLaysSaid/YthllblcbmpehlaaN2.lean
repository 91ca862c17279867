/- The walk of InkOne. -/
import Derived.Test.YthllblcbmpehlaaNn
namespace Go.Proofs.Ythllblcbmpehlaa
open Go.RowKit Go.Proofs.YthllblcbmpehlaaW.PrintWords Go.Proofs.YthllblcbmpehlaaW.PrintLast Go.Proofs.YthllblcbmpehlaaW.PrintMore
set_option linter.unusedVariables false
set_option linter.unusedSimpArgs false

theorem fewN_most {l : List S30} (h : ∀ x ∈ l, Fd x) : ∀ x ∈ fewN l, Int.tmod x.f0 5 = 4 → x.f3 ≤ 1000 := by
  intro x hx h4
  obtain ⟨y, hy, rfl⟩ := List.mem_map.1 hx
  have h3 := (h y (List.mem_of_mem_take hy)).2.2.2
  have h4' : Int.tmod y.f0 5 = 4 := h4
  show (if Int.tmod y.f0 5 = 4 then Int.tmod y.f3 1000 else y.f3) ≤ 1000
  rw [if_pos h4', Int.tmod_eq_emod_of_nonneg h3.1]; omega
/-- What is laid of what is taken, field by field. -/
def runT : List S30 → List Int → Bool → List Int × List Int × Bool
  | [], l, b => ([], l, b)
  | x :: xs, l, b => (layN ⟨x.f0, (eTake x l b).1.1, (eTake x l b).1.2, x.f3⟩ ++ (runT xs (eTake x l b).2.1 (eTake x l b).2.2).1, (runT xs (eTake x l b).2.1 (eTake x l b).2.2).2)
theorem runT_bad : ∀ (xs : List S30) (l : List Int), (runT xs l true).2.2 = true
  | [], l => rfl
  | x :: xs, l => by simp only [runT]; rw [eTake_bad]; exact runT_bad xs _
theorem runT_back : ∀ (xs : List S30) (h : ∀ x ∈ xs, Fd x) (l : List Int), Bytes l → (runT xs l false).2.2 = false → l = (runT xs l false).1 ++ (runT xs l false).2.1
  | [], _, l, _, _ => rfl
  | x :: xs, hf, l, hb, h => by
    obtain ⟨⟨⟨n, bs⟩, l', b'⟩, hr⟩ : ∃ r, eTake x l false = r := ⟨_, rfl⟩
    have hfa := eTake_facts x (hf x (by simp)) l false hb
    simp only [runT] at h ⊢
    rw [hr] at h hfa ⊢
    simp only at h hfa ⊢
    cases b' with
    | true => rw [runT_bad] at h; cases h
    | false =>
      have e := take_lay hb hr
      have ih := runT_back xs (fun y hy => hf y (List.mem_cons_of_mem _ hy)) l' hfa.1 h
      rw [List.append_assoc, ← ih]
      exact e
theorem Pn.keep {w w' : World} {base gp g : Nat} {p : List Int} {v : Value} {cs : Array Value} (h : Pn w base gp p v) (hk : KeepBut w w' g none) (hne : gp ≠ g) (hg : w.heap[g]? = some (.cells cs 67 (0, 0))) : Pn w' base gp p v :=
  ⟨(hk.2 gp h.lt hne (by simp)).trans h.1, Kd.R_mono (Kd.R_keep (Kd.R_types h.2 hg (by intro q hq; simp [Kd.int, Kd.scalar] at hq; rw [hq]; decide)) hk (fun k hk => hk.2)) (fun k hk => hk.1)⟩
theorem Ey.blk {w : World} {g B : Nat} {l : List Int} {bad : Bool} (h : Ey w g B l bad) : ∃ cs, w.heap[g]? = some (.cells cs 67 (0, 0)) := by
  obtain ⟨A, n, c, h1, _⟩ := h
  exact ⟨_, h1⟩
/-- What lies below an eye stays. -/
theorem R_eye {α : Type} {d : Kd α} {e base : Nat} {w w' : World} {g B : Nat} {l : List Int} {bad : Bool} {v : Value} {xs : List α} (h : d.R e w base (fun k => k < g) v xs) (hk : EyTo w w' g B l bad) : d.R e w' base (fun k => k < g) v xs :=
  Kd.R_step h (fun k hk' _ => hk.2.2.block k hk')
theorem R_pen {α : Type} {d : Kd α} {e base b g : Nat} {w w' : World} {v : Value} {xs : List α} (h : d.R e w base (fun k => k < g) v xs) (hg : g ≤ b) (hk : Below b w w') : d.R e w' base (fun k => k < g) v xs :=
  Kd.R_step h (fun k hk' _ => hk.block k (by omega))

/-- What stands at the begin of each round. -/
def OInv (w wr : World) (ge b bL bP : Nat) (L : List S30) (vL vP : Value) (p : List Int) (R : List Int × List Int × Bool) (i : Nat) (cur : List Int) (bad : Bool) (pn : List Int) (v : Value) : Prop :=
  Ey wr ge b cur bad ∧ Pn wr b b pn v ∧ (pn ++ (runT (L.drop i) cur bad).1 = R.1 ∧ (runT (L.drop i) cur bad).2 = R.2) ∧ Bytes cur ∧ cur.length ≤ 60 ∧ pn.length ≤ 100 * i ∧ Below w.heap.size w wr ∧
    k30.R 30 wr bL (fun k => k < ge) vL L ∧ (Kd.int .u8).R 5 wr bP (fun k => k < ge) vP p

set_option maxRecDepth 100000 in
set_option maxHeartbeats 8000000 in
theorem one_walk (A : Option Addr) (len c : Nat) (p0 : List Int) (A2 : Option Addr) (len2 c2 : Nat) (l : List S30) (w : World) (hr : (Kd.int .u8).C w A len p0) (hc : len ≤ c) (hby : ∀ x ∈ p0, 0 ≤ x ∧ x < 256) (hr2 : k30.C w A2 len2 l) (hc2 : len2 ≤ c2) (hf : ∀ x ∈ l, Fd x ∧ x.f2.length ≤ 9223372036854775807) :
    Calls Try.prog 5 #[.slice A len c, .slice A2 len2 c2] w fun e w' => e = .returned (.bool true) ∧ Below w.heap.size w w' := by
  have HR := Aside0.mk hr
  have HR2 := Aside0.mk hr2
  have HF := Aside0.mk hf
  have HC := Aside0.mk hc
  have HC2 := Aside0.mk hc2
  have HBY := Aside0.mk hby
  clear hr hr2 hf hc hc2 hby
  go_enter Try.func5, Try.ntmps5
  go_wp2_with fail
  refine (awake_any _).mono ?_
  rintro e w1 ⟨rfl, hb1⟩
  have HB1 := Aside0.mk hb1
  have HR1 := Aside0.mk (Kd.C_below HR.out hb1)
  have HR21 := Aside0.mk (Kd.C_below HR2.out hb1)
  clear hb1 HR HR2
  go_wp2_with fail
  refine (cut_any _ _ _ p0 60 _ HR1.out HC.out (by omega)).mono ?_
  rintro e w2 ⟨v2, rfl, hv2, hb2⟩
  obtain ⟨p, hp⟩ : ∃ p, p0.take (60 : Int).toNat = p := ⟨_, rfl⟩
  have HPB : Aside0 (Bytes p) := ⟨by rw [← hp]; exact Bytes.take HBY.out _⟩
  have HPL : Aside0 (p.length ≤ 60) := ⟨by rw [← hp, List.length_take]; exact Nat.min_le_left _ _⟩
  rw [hp] at hv2
  obtain ⟨P, dp, hv⟩ := Kd.R_slice hv2
  obtain ⟨lp, hlp⟩ : ∃ lp, p.length = lp := ⟨_, rfl⟩
  rw [hlp] at hv
  subst hv
  have HLP := Aside0.mk hlp
  have HB2 := Aside0.mk (below_step HB1.out hb2)
  have HP2 := Aside0.mk hv2
  have HR3 := Aside0.mk (Kd.C_below HR21.out hb2)
  clear hv2 hb2 hp hlp HR1 HR21 HB1 HC HBY
  go_wp2_with fail
  refine (few_any _ _ _ l _ HR3.out HC2.out (fun x hx => (HF.out x hx).2)).mono ?_
  rintro e w3 ⟨v3, rfl, hv3, hb3⟩
  obtain ⟨L, hL⟩ : ∃ L, fewN l = L := ⟨_, rfl⟩
  have HFL := Aside0.mk (fewN_mem (fun x hx => (HF.out x hx).1))
  have HFM := Aside0.mk (fewN_most (fun x hx => (HF.out x hx).1))
  have HLL := Aside0.mk (fewN_length l)
  rw [hL] at hv3 HFL HLL HFM
  obtain ⟨Q, d, hv⟩ := Kd.R_slice hv3
  obtain ⟨n, hn⟩ : ∃ n, L.length = n := ⟨_, rfl⟩
  rw [hn] at hv HLL
  subst hv
  have HN := Aside0.mk hn
  have HB3 := Aside0.mk (below_step HB2.out hb3)
  have HP3 := Aside0.mk (Kd.R_below HP2.out hb3)
  have HL3 := Aside0.mk hv3
  obtain ⟨r1, r2, r3⟩ := Rn_C HP3.out
  have HPC := Aside0.mk r3
  clear hv3 hb3 hL hn HR3 HP2 HB2 HF HC2 r1 r2 r3
  go_wp2_with fail
  refine (read_any _ _ _ p _ HPC.out (by have := HPL.out; have := HLP.out; omega)).mono ?_
  rintro e w4 ⟨ge, rfl, hge, hE, hb4⟩
  have HP4 := Aside0.mk (Kd.R_below (Kd.R_mono (Kd.R_bound HP3.out) (ok' := fun k => k < ge) (fun k hk => Nat.lt_of_lt_of_le hk.2.2.1 hge)) hb4)
  have HL4 := Aside0.mk (Kd.R_below (Kd.R_mono (Kd.R_bound HL3.out) (ok' := fun k => k < ge) (fun k hk => Nat.lt_of_lt_of_le hk.2.2.1 hge)) hb4)
  have HB4 := Aside0.mk (below_step HB3.out hb4)
  have HGW := Aside0.mk (Nat.le_trans HB3.out.size hge)
  have HE := Aside0.mk hE
  obtain ⟨b, hb⟩ : ∃ b, w4.heap.size = b := ⟨_, rfl⟩
  have q1 : (w4.alloc (.cells #[.slice none 0 0] 27)).heap[b]? = some (.cells #[.slice none 0 0] 27 (0, 0)) := by rw [← hb]; exact blk_new _ _
  have hal := below_alloc (Below.refl w4.heap.size w4) (.cells #[.slice none 0 0] 27)
  have H0 : Aside0 (OInv w (w4.alloc (.cells #[.slice none 0 0] 27)) ge b w2.heap.size w1.heap.size L (.slice Q n d) (.slice P lp dp) p (runT L p false) 0 p false [] (.slice none 0 0)) := by
    refine ⟨⟨?_, pen_new q1, ⟨by simp, by simp⟩, HPB.out, HPL.out, by simp, below_step HB4.out hal, Kd.R_below HL4.out hal, Kd.R_below HP4.out hal⟩⟩
    rw [← hb]; exact HE.out.below hal (Nat.le_refl _)
  have HGB : Aside0 (ge < b) := ⟨by rw [← hb]; exact HE.out.lt.1⟩
  clear hge hE hb4 q1 hal HE HP3 HL3 HB3 HP4 HL4 HPC HB4
  go_wp2_with fail
  (try rw [hb])
  generalize w4.alloc (.cells #[.slice none 0 0] 27) = w5 at *
  generalize w2.heap.size = bL at *
  generalize w1.heap.size = bP at *
  clear hb
  go_loopw [19] (fun v19 wr => ∃ (i : Nat) (cur : List Int) (bad : Bool) (pn : List Int) (v : Value), i ≤ n ∧ v19 = .int .i64 i ∧ Aside0 (OInv w wr ge b bL bP L (.slice Q n d) (.slice P lp dp) p (runT L p false) i cur bad pn v)) (fun v19 _ => n - (intOf v19).toNat)
  case atStart => exact ⟨0, _, _, _, _, by omega, rfl, H0⟩
  case round =>
    clear H0
    obtain ⟨i, cur, bad, pn, v, hi, rfl, H⟩ := hrel
    have hmx : n ≤ 12 := HLL.out
    have hlen : L.length = n := HN.out
    by_cases hlt : i < n
    · obtain ⟨i1, i2, ⟨i3, i3'⟩, i4, i5, i6, i7, i8, i9⟩ := H.out
      obtain ⟨ad, B, cB, hA, x0, x1, x2, x3, hxc, hxd⟩ := field_at (Rn_C i8).2.2 i (by omega)
      have hmem := HFL.out _ (List.getElem_mem (show i < L.length by omega))
      have hmo := HFM.out _ (List.getElem_mem (show i < L.length by omega))
      rw [List.drop_eq_getElem_cons (show i < L.length by omega)] at i3 i3'
      generalize L[i]'(by omega) = x at *
      subst hA
      simp only [runT] at i3 i3'
      have hfa := eTake_facts x hmem.1 cur bad i4
      have hgb := HGB.out
      have hbl := i2.lt
      have hal := below_alloc (Below.refl wr.heap.size wr) (.cells #[.int .u8 x.f0, .int .u64 x.f1, .slice B x.f2.length cB, .int .u64 x.f3] 30)
      have K1 := Aside0.mk (take_any ge b cur bad x B cB _ hmem.1 (i1.below (hal.mono (Nat.le_of_lt hbl)) (Nat.le_of_lt hbl)) (Nat.le_trans (Nat.le_of_lt hbl) hal.size) i4 (by omega) hmo)
      obtain ⟨⟨⟨N, bs⟩, l', b'⟩, hr⟩ : ∃ r, eTake x cur bad = r := ⟨_, rfl⟩
      rw [hr] at K1 hfa i3 i3'
      simp only at K1 hfa i3 i3'
      obtain ⟨ex, hex⟩ := (i1.below (hal.mono (Nat.le_of_lt hbl)) (Nat.le_of_lt hbl)).blk
      have K2 := Aside0.mk (fun (w6 : World) (h6 : EyTo (wr.alloc (.cells #[.int .u8 x.f0, .int .u64 x.f1, .slice B x.f2.length cB, .int .u64 x.f3] 30)) w6 ge b l' b') => (i2.below hal).keep h6.2.1 (by omega) hex)
      have HI3 := Aside0.mk (⟨i3, i3'⟩ : pn ++ (layN ⟨x.f0, N, bs, x.f3⟩ ++ (runT (L.drop (i + 1)) l' b').1) = (runT L p false).1 ∧ (runT (L.drop (i + 1)) l' b').2 = (runT L p false).2)
      have HI6 := Aside0.mk i6
      have HI7 := Aside0.mk (below_step i7 hal)
      have HI8 := Aside0.mk (Kd.R_below i8 hal)
      have HI9 := Aside0.mk (Kd.R_below i9 hal)
      have HFA := Aside0.mk hfa
      have HI5 := Aside0.mk i5
      have HMX := Aside0.mk hmx
      have d1 : decide (i < n) = true := decide_eq_true hlt
      have HOW := Aside0.mk (show ∀ k, v.ownBlock = some k → k < (wr.alloc (.cells #[.int .u8 x.f0, .int .u64 x.f1, .slice B x.f2.length cB, .int .u64 x.f3] 30)).heap.size from fun k hk => Nat.lt_of_lt_of_le (i2.own k hk) hal.size)
      have HBL := Aside0.mk (show b < (wr.alloc (.cells #[.int .u8 x.f0, .int .u64 x.f1, .slice B x.f2.length cB, .int .u64 x.f3] 30)).heap.size from Nat.lt_of_lt_of_le hbl hal.size)
      obtain ⟨f0, f1, f2, f3⟩ := x
      simp only at x0 x1 x2 x3 K1 K2 HI3 HI7 HI8 HI9 HFA HOW HBL
      generalize f2.length = fl at *
      clear i1 i2 i3 i3' i4 i5 i6 i7 i8 i9 hxc hxd hmem hmo hfa hal hr hex H hlen hgb hbl hmx
      go_wp2_with fail
      refine K1.out.mono ?_
      rintro e w6 ⟨vb, rfl, hT⟩
      obtain ⟨hE6, hvb⟩ := hT
      simp only at hE6 hvb
      obtain ⟨Qb, db, hv⟩ := Kd.R_slice hvb
      obtain ⟨lb, hlb⟩ : ∃ lb, bs.length = lb := ⟨_, rfl⟩
      have hfb : bs.length ≤ 60 := Nat.le_trans HFA.out.2.2.1 HI5.out
      have hP6 := K2.out w6 hE6
      have K3 := lay_any b b pn v ⟨f0, N, bs, f3⟩ Qb db w6 HFA.out.2.2.2 hP6 (Nat.le_refl _) (by have := HI6.out; have := HMX.out; simp only; omega) (fun w' hk _ => by
        rw [hv] at hvb
        have h9 := Kd.R_mono (Kd.R_bound hvb) (ok' := fun k => (wr.alloc (.cells #[.int .u8 f0, .int .u64 f1, .slice B fl cB, .int .u64 f3] 30)).heap.size ≤ k) (fun k hk => hk.2.1)
        exact (Rn_C (Kd.R_step h9 (fun k hk' hlt => hk.2 k hlt (by have := HBL.out; omega) (fun e => by have := HOW.out k e.symm; omega)))).2.2)
      simp only at K3
      rw [hlb] at hv K3
      subst hv
      have K4 := Aside0.mk K3
      have HE6 := Aside0.mk hE6
      have HP6 := Aside0.mk hP6
      have HFB := Aside0.mk hfb
      clear hE6 hvb K3 hP6 hlb K1 K2 hfb HOW HBL
      go_wp2_with fail
      refine K4.out.mono ?_
      rintro e w7 ⟨v7, rfl, h⟩
      have hgb := HGB.out
      have hll := layN_length ⟨f0, N, bs, f3⟩ HFA.out.2.2.2 (by have := HFB.out; simp only; omega)
      have hs6 := HP6.out.lt
      have H2 : Aside0 (OInv w w7 ge b bL bP L (.slice (some ad) n d) (.slice P lp dp) p (runT L p false) (i + 1) l' b' (pn ++ layN ⟨f0, N, bs, f3⟩) v7) := by
        refine ⟨⟨HE6.out.1.below h.2.2.2 (Nat.le_of_lt hs6), h.1, ⟨?_, HI3.out.2⟩, HFA.out.1, Nat.le_trans HFA.out.2.1 HI5.out, ?_, ?_, R_pen (R_eye HI8.out HE6.out) (Nat.le_of_lt hgb) h.2.2.2, R_pen (R_eye HI9.out HE6.out) (Nat.le_of_lt hgb) h.2.2.2⟩⟩
        · rw [List.append_assoc]; exact HI3.out.1
        · have := HI6.out; have := HFB.out; simp only at hll; rw [List.length_append]; omega
        · exact (HI7.out.trans (HE6.out.2.2.mono HGW.out)).trans (h.2.2.2.mono (by have := HGW.out; omega))
      have hmx := HMX.out
      clear h hll hs6 K4 HE6 HP6 HFB HI3 HI5 HI6 HI7 HI8 HI9 HFA hgb
      go_wp2_with fail
      go_roundw
      case rel => exact ⟨i + 1, _, _, _, _, by omega, by go_num, H2⟩
      case measure => simp [intOf]; omega
    · have hn : i = n := by omega
      subst hn
      have H1 := H
      obtain ⟨i1, i2, ⟨i3, i3'⟩, i4, i5, i6, i7, i8, i9⟩ := H.out
      rw [List.drop_of_length_le (by omega)] at i3 i3'
      simp only [runT] at i3 i3'
      rw [List.append_nil] at i3
      have hback : bad = false → cur = [] → pn = p := fun h1 h2 => by
        have h3 := runT_back L (fun x hx => (HFL.out x hx).1) p HPB.out (by rw [← i3']; exact h1)
        rw [← i3, ← i3', h2] at h3
        simpa using h3.symm
      have HBK := Aside0.mk hback
      have KD := Aside0.mk (done_any ge b cur bad wr i1)
      have KP := Aside0.mk (pbytes_any b b pn v wr i2 (by omega))
      have HP := Aside0.mk i9
      have HB := Aside0.mk i7
      have d1 : decide (i < i) = false := decide_eq_false (by omega)
      clear i1 i2 i3 i3' i4 i5 i6 i7 i8 i9 H1 H hback hlen hmx hi hlt
      by_cases hbd : bad = true ∨ 0 < cur.length
      · rw [if_pos hbd] at KD
        clear hbd KP HBK
        go_wp2_with fail
        refine KD.out.mono ?_
        rintro e w8 ⟨rfl, rfl⟩
        clear KD
        go_wp2_with fail
        go_ret
        exact ⟨rfl, HB.out⟩
      · rw [if_neg hbd] at KD
        obtain rfl : pn = p := HBK.out (by cases bad; rfl; exact absurd (.inl rfl) hbd) (by cases cur; rfl; exact absurd (.inr (by simp)) hbd)
        clear hbd HBK
        go_wp2_with fail
        refine KD.out.mono ?_
        rintro e w8 ⟨rfl, rfl⟩
        clear KD
        go_wp2_with fail
        refine KP.out.mono ?_
        rintro e w9 ⟨vo, rfl, ho, hb9⟩
        obtain ⟨X, dx, hv⟩ := Kd.R_slice ho
        rw [HLP.out] at hv
        subst hv
        obtain ⟨r1, r2, r3⟩ := Rn_C ho
        obtain ⟨s1, s2, s3⟩ := Rn_C (Kd.R_below HP.out hb9)
        have C1 := Aside0.mk r3
        have D1 := Aside0.mk r2
        have C2 := Aside0.mk s3
        have D2 := Aside0.mk s2
        have HB9 := Aside0.mk (below_step HB.out hb9)
        clear ho hb9 r1 r2 r3 s1 s2 s3 KP HP HB
        go_wp2_with fail
        refine (same_is true _ _ _ _ _ _ _ _ _ C1.out D1.out C2.out D2.out (by simp)).mono ?_
        rintro e w10 ⟨rfl, nd, rfl⟩
        have HB10 := Aside0.mk (pw_below_drewN HB9.out nd)
        clear C1 C2 HB9
        go_wp2_with fail
        go_ret
        exact ⟨rfl, HB10.out⟩
end Go.Proofs.Ythllblcbmpehlaa
