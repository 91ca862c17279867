/- The walk of InkTakes. -/
import Derived.Test.YthllblcbmpehlaaNu
import Derived.Test.YthllblcbmpehlaaN2
namespace Go.Proofs.Ythllblcbmpehlaa
open Go.RowKit Go.Proofs.YthllblcbmpehlaaW.PrintWords Go.Proofs.YthllblcbmpehlaaW.PrintLast Go.Proofs.YthllblcbmpehlaaW.PrintMore
set_option linter.unusedVariables false
set_option linter.unusedSimpArgs false

theorem eTake_fail {x : S30} {l l' bs : List Int} {n : Int} {bad : Bool} (h : eTake x l bad = ((n, bs), l', true)) : n = 0 ∧ bs = [] ∧ l' = [] := by
  have key : ∀ (p : Int × List Int × Bool), p.2.2 = true → (p = eByte l bad ∨ (∃ k, p = eFix k l bad) ∨ ∃ m, p = eNum m l bad) → p.1 = 0 ∧ p.2.1 = [] := by
    rintro p hp (rfl | ⟨k, rfl⟩ | ⟨m, rfl⟩)
    · unfold eByte at *
      split
      · exact ⟨rfl, rfl⟩
      · rename_i h; rw [if_neg h] at hp; cases hp
    · unfold eFix at *
      split
      · exact ⟨rfl, rfl⟩
      · rename_i h; rw [if_neg h] at hp; cases hp
    · unfold eNum at *
      cases hq : numB bad 0 0 l with
      | none => exact ⟨rfl, rfl⟩
      | some q =>
        obtain ⟨k, t⟩ := q
        rw [hq] at hp
        simp only [eRes] at hp ⊢
        split
        · exact ⟨rfl, rfl⟩
        · rename_i h; rw [if_neg h] at hp; cases hp
  unfold eTake at h
  split at h
  · simp only [Prod.mk.injEq] at h
    have := key (eByte l bad) (by rw [h.2]) (.inl rfl)
    exact ⟨h.1.1 ▸ this.1, h.1.2.symm, by rw [← this.2, h.2]⟩
  · split at h
    · simp only [Prod.mk.injEq] at h
      have := key (eFix 2 l bad) (by rw [h.2]) (.inr (.inl ⟨_, rfl⟩))
      exact ⟨h.1.1 ▸ this.1, h.1.2.symm, by rw [← this.2, h.2]⟩
    · split at h
      · simp only [Prod.mk.injEq] at h
        have := key (eFix 4 l bad) (by rw [h.2]) (.inr (.inl ⟨_, rfl⟩))
        exact ⟨h.1.1 ▸ this.1, h.1.2.symm, by rw [← this.2, h.2]⟩
      · split at h
        · simp only [Prod.mk.injEq] at h
          have := key (eNum x.f3.toNat l bad) (by rw [h.2]) (.inr (.inr ⟨_, rfl⟩))
          exact ⟨h.1.1 ▸ this.1, h.1.2.symm, by rw [← this.2, h.2]⟩
        · simp only [Prod.mk.injEq] at h
          unfold eBlob at h
          obtain ⟨⟨k, t, b⟩, hk⟩ : ∃ y, eNum x.f3.toNat l bad = y := ⟨_, rfl⟩
          rw [hk] at h
          simp only at h
          split at h
          · simp only [Prod.mk.injEq] at h
            exact ⟨h.1.1.symm, h.1.2.symm, h.2.1.symm⟩
          · simp at h

/-- What stands at the begin of each round. -/
def TInv (w wr : World) (ge Be BP bL : Nat) (L : List S30) (vL : Value) (cur : List Int) (bad : Bool) (P : Option Addr) (lp dp : Nat) : Prop :=
  Ey wr ge Be cur bad ∧ (Kd.int .u8).C wr P lp cur ∧ lp ≤ dp ∧ (∀ ad, P = some ad → ad.block < BP) ∧ (bad = true → cur = []) ∧ Bytes cur ∧ cur.length ≤ 60 ∧ Below w.heap.size w wr ∧ k30.R 30 wr bL (fun k => k < ge) vL L ∧ Be ≤ wr.heap.size

theorem TInv.low {w wr w' : World} {ge Be BP bL y : Nat} {L : List S30} {vL : Value} {cur : List Int} {bad : Bool} {P : Option Addr} {lp dp : Nat} (h : TInv w wr ge Be BP bL L vL cur bad P lp dp) (hb : Below y wr w') (h1 : ge < y) (h2 : Be ≤ y) (h3 : BP ≤ y) (h4 : w.heap.size ≤ y) :
    TInv w w' ge Be BP bL L vL cur bad P lp dp := by
  obtain ⟨i1, i2, i3, i4, i5, i6, i7, i8, i9, i10⟩ := h
  exact ⟨i1.below (hb.mono h2) i10, C_low i2 (fun ad e => Nat.lt_of_lt_of_le (i4 ad e) h3) hb, i3, i4, i5, i6, i7, i8.trans (hb.mono h4), Kd.R_step i9 (fun k hk _ => hb.block k (by omega)), Nat.le_trans i10 hb.size⟩

set_option maxRecDepth 100000 in
set_option maxHeartbeats 8000000 in
theorem takes_walk (A : Option Addr) (len c : Nat) (p0 : List Int) (A2 : Option Addr) (len2 c2 : Nat) (l : List S30) (w : World) (hr : (Kd.int .u8).C w A len p0) (hc : len ≤ c) (hby : ∀ x ∈ p0, 0 ≤ x ∧ x < 256) (hr2 : k30.C w A2 len2 l) (hc2 : len2 ≤ c2) (hf : ∀ x ∈ l, Fd x ∧ x.f2.length ≤ 9223372036854775807) :
    Calls Try.prog 6 #[.slice A len c, .slice A2 len2 c2] w fun e w' => e = .returned (.bool true) ∧ Below w.heap.size w w' := by
  have HR := Aside0.mk hr
  have HR2 := Aside0.mk hr2
  have HF := Aside0.mk hf
  have HC := Aside0.mk hc
  have HC2 := Aside0.mk hc2
  have HBY := Aside0.mk hby
  clear hr hr2 hf hc hc2 hby
  go_enter Try.func6, Try.ntmps6
  go_wp2_with fail
  refine (awake_any _).mono ?_
  rintro e w1 ⟨rfl, hb1⟩
  have HB1 := Aside0.mk hb1
  have HR1 := Aside0.mk (Kd.C_below HR.out hb1)
  have HR21 := Aside0.mk (Kd.C_below HR2.out hb1)
  clear hb1 HR HR2
  go_wp2_with fail
  refine (cut_any _ _ _ p0 60 _ HR1.out HC.out (by omega)).mono ?_
  rintro e w2 ⟨v2, rfl, hv2, hb2⟩
  obtain ⟨p, hp⟩ : ∃ p, p0.take (60 : Int).toNat = p := ⟨_, rfl⟩
  have HPB : Aside0 (Bytes p) := ⟨by rw [← hp]; exact Bytes.take HBY.out _⟩
  have HPL : Aside0 (p.length ≤ 60) := ⟨by rw [← hp, List.length_take]; exact Nat.min_le_left _ _⟩
  rw [hp] at hv2
  obtain ⟨P, dp, hv⟩ := Kd.R_slice hv2
  obtain ⟨lp, hlp⟩ : ∃ lp, p.length = lp := ⟨_, rfl⟩
  rw [hlp] at hv
  subst hv
  have HLP := Aside0.mk hlp
  have HB2 := Aside0.mk (below_step HB1.out hb2)
  have HP2 := Aside0.mk hv2
  have HR3 := Aside0.mk (Kd.C_below HR21.out hb2)
  clear hv2 hb2 hp hlp HR1 HR21 HB1 HC HBY
  go_wp2_with fail
  refine (few_any _ _ _ l _ HR3.out HC2.out (fun x hx => (HF.out x hx).2)).mono ?_
  rintro e w3 ⟨v3, rfl, hv3, hb3⟩
  obtain ⟨L, hL⟩ : ∃ L, fewN l = L := ⟨_, rfl⟩
  have HFL := Aside0.mk (fewN_mem (fun x hx => (HF.out x hx).1))
  have HFM := Aside0.mk (fewN_most (fun x hx => (HF.out x hx).1))
  have HLL := Aside0.mk (fewN_length l)
  rw [hL] at hv3 HFL HLL HFM
  obtain ⟨Q, d, hv⟩ := Kd.R_slice hv3
  obtain ⟨n, hn⟩ : ∃ n, L.length = n := ⟨_, rfl⟩
  rw [hn] at hv HLL
  subst hv
  have HN := Aside0.mk hn
  have HB3 := Aside0.mk (below_step HB2.out hb3)
  have HP3 := Aside0.mk (Kd.R_below HP2.out hb3)
  have HL3 := Aside0.mk hv3
  obtain ⟨r1, r2, r3⟩ := Rn_C HP3.out
  have HPC := Aside0.mk r3
  have HPD := Aside0.mk r2
  have HPA := Aside0.mk (show ∀ ad, P = some ad → ad.block < w3.heap.size from fun ad e => Kd.R_lt HP3.out ad.block (by rw [e]; rfl))
  clear hv3 hb3 hL hn HR3 HP2 HB2 HF HC2 r1 r2 r3
  go_wp2_with fail
  refine (read_any _ _ _ p _ HPC.out (by have := HPL.out; have := HLP.out; omega)).mono ?_
  rintro e w4 ⟨ge, rfl, hge, hE, hb4⟩
  have HL4 := Kd.R_below (Kd.R_mono (Kd.R_bound HL3.out) (ok' := fun k => k < ge) (fun k hk => Nat.lt_of_lt_of_le hk.2.2.1 hge)) hb4
  have H0 : Aside0 (TInv w w4 ge w4.heap.size w3.heap.size w2.heap.size L (.slice Q n d) p false P lp dp) :=
    ⟨⟨hE, Kd.C_below HPC.out hb4, HPD.out, HPA.out, (fun h => by cases h), HPB.out, HPL.out, below_step HB3.out hb4, HL4, Nat.le_refl _⟩⟩
  have HGE := Aside0.mk hge
  have HGW := Aside0.mk (Nat.le_trans HB3.out.size hge)
  have HGE2 := Aside0.mk (hE.lt.1)
  generalize w4.heap.size = Be at *
  generalize w3.heap.size = BP at *
  generalize w2.heap.size = bL at *
  clear hge hE hb4 HP3 HL3 HB3 HL4 HPC HPD HPA HPB HPL HLP
  go_wp2_with fail
  go_loopw [0, 6, 25] (fun v0 v6 v25 wr => ∃ (i : Nat) (cur : List Int) (bad : Bool) (P : Option Addr) (lp dp : Nat), i ≤ n ∧ v0 = .slice P lp dp ∧ v6 = .bool (!bad) ∧ v25 = .int .i64 i ∧ Aside0 (TInv w wr ge Be BP bL L (.slice Q n d) cur bad P lp dp)) (fun _ _ v25 _ => n - (intOf v25).toNat)
  case atStart => exact ⟨0, p, false, P, lp, dp, by omega, rfl, rfl, rfl, H0⟩
  case round =>
    clear H0
    obtain ⟨i, cur, bad, P, lp, dp, hi, rfl, rfl, rfl, H⟩ := hrel
    have hmx : n ≤ 12 := HLL.out
    have hlen : L.length = n := HN.out
    obtain ⟨i1, i2, i3, i4, i5, i6, i7, i8, i9, i10⟩ := H.out
    have hlp : lp = cur.length := i2.1.symm
    by_cases hlt : i < n
    · obtain ⟨ad, B, cB, hA, x0, x1, x2, x3, hxc, hxd⟩ := field_at (Rn_C i9).2.2 i (by omega)
      have hmem := HFL.out _ (List.getElem_mem (show i < L.length by omega))
      have hmo := HFM.out _ (List.getElem_mem (show i < L.length by omega))
      generalize L[i]'(by omega) = x at *
      subst hA
      have hfa := eTake_facts x hmem.1 cur bad i6
      have hge2 := HGE2.out
      have hgl := i1.lt.1
      have hBe : Be ≤ wr.heap.size := i10
      have hal := below_alloc (Below.refl wr.heap.size wr) (.cells #[.int .u8 x.f0, .int .u64 x.f1, .slice B x.f2.length cB, .int .u64 x.f3] 30)
      have hE1 := i1.below (hal.mono hBe) hBe
      have K1 := Aside0.mk (take_any ge Be cur bad x B cB _ hmem.1 hE1 (Nat.le_trans hBe hal.size) i6 (by omega) hmo)
      have KR := Aside0.mk (fun (W : World) (h1 : (Kd.int .u8).C W P lp cur) (h2 : BP ≤ W.heap.size) => rtake_any BP cur x P lp dp B cB W hmem.1 h1 i4 h2 i3 i6 (by omega) hmo)
      obtain ⟨⟨⟨N, bs⟩, l', b'⟩, hrr⟩ : ∃ r, eTake x cur bad = r := ⟨_, rfl⟩
      have hff : b' = true → N = 0 ∧ bs = [] ∧ l' = [] := fun h => by subst h; exact eTake_fail hrr
      rw [hrr] at K1 hfa
      simp only at K1 hfa
      have hbd : bad = true → b' = true := fun h => by subst h; have := eTake_bad x cur; rw [hrr] at this; exact this
      have KR2 : bad = false → ∀ (W : World) (h1 : (Kd.int .u8).C W P lp cur) (h2 : BP ≤ W.heap.size), Calls Try.prog 25 #[.slice P lp dp, .agg #[.int .u8 x.f0, .int .u64 x.f1, .slice B x.f2.length cB, .int .u64 x.f3]] W fun e w' => RTook W w' BP x ((N, bs), l', b') e := fun h W h1 h2 => by
        subst h; have := KR.out W h1 h2; rw [hrr] at this; exact this
      have HKR := Aside0.mk KR2
      have H30 := Aside0.mk hff
      have HBD := Aside0.mk hbd
      have HFA := Aside0.mk hfa
      have HI := Aside0.mk H.out
      have HMX := Aside0.mk hmx
      have HX0 := Aside0.mk (show wr.heap.size ≠ ge from by omega)
      have HBE := Aside0.mk hBe
      have d1 : decide (i < n) = true := decide_eq_true hlt
      obtain ⟨f0, f1, f2, f3⟩ := x
      simp only at x0 x1 x2 x3 K1 HKR HFA
      generalize f2.length = fl at *
      clear KR KR2 hff hbd hfa hrr hmem hmo hal hE1 hxc hxd i1 i2 i3 i4 i5 i6 i7 i8 i9 i10 hgl hBe hge2 H hlen hlp
      go_wp2_with fail
      refine K1.out.mono ?_
      rintro e w6 ⟨vb, rfl, hT⟩
      obtain ⟨hE6, hvb⟩ := hT
      simp only at hE6 hvb
      obtain ⟨Qb, db, hv⟩ := Kd.R_slice hvb
      obtain ⟨lb, hlb⟩ : ∃ lb, bs.length = lb := ⟨_, rfl⟩
      rw [hlb] at hv
      subst hv
      obtain ⟨wa, hwa⟩ : ∃ wa, wr.alloc (.cells #[.int .u8 f0, .int .u64 f1, .slice B fl cB, .int .u64 f3] 30) = wa := ⟨_, rfl⟩
      rw [hwa] at hE6 hvb
      have hwas : wr.heap.size < wa.heap.size := by rw [← hwa]; simp
      have hwab : Below wr.heap.size wr wa := by rw [← hwa]; exact below_alloc (Below.refl _ _) _
      have hb0 : w6.heap[wr.heap.size]? = some (.cells #[.int .u8 f0, .int .u64 f1, .slice B fl cB, .int .u64 f3] 30 (0, 0)) := (hE6.2.1.2 _ hwas HX0.out (by simp)).trans (by rw [← hwa]; exact blk_new _ _)
      have hs6 := hE6.2.1.1
      -- the worlds ahead of the reference
      obtain ⟨W7, hW7⟩ : ∃ W7, (w6.alloc (.cells #[.int .u8 f0, .int .u64 N, .slice Qb lb db, .int .u64 f3] 30)).alloc (.cells #[.int .u8 0, .int .u64 0, .slice none 0 0, .int .u64 0] 30) = W7 := ⟨_, rfl⟩
      have hb7 : Below w6.heap.size w6 W7 := by rw [← hW7]; exact below_alloc (below_alloc (Below.refl _ _) _) _
      have u0 : W7.heap[wr.heap.size]? = _ := blk_below hb0 hb7
      have u1 : W7.heap[w6.heap.size]? = some (.cells #[.int .u8 f0, .int .u64 N, .slice Qb lb db, .int .u64 f3] 30 (0, 0)) := by rw [← hW7]; exact blk_alloc (blk_new _ _) _
      have u2 : W7.heap[w6.heap.size + 1]? = some (.cells #[.int .u8 0, .int .u64 0, .slice none 0 0, .int .u64 0] 30 (0, 0)) := by rw [← hW7]; simpa using blk_new (w6.alloc (.cells #[.int .u8 f0, .int .u64 N, .slice Qb lb db, .int .u64 f3] 30)) (.cells #[.int .u8 0, .int .u64 0, .slice none 0 0, .int .u64 0] 30)
      obtain ⟨i1, i2, i3, i4, i5, i6, i7, i8, i9, i10⟩ := HI.out
      have hBeW : Be ≤ wr.heap.size := HBE.out
      have hE67 : Ey W7 ge Be l' b' := hE6.1.below (hb7.mono (by omega)) (by omega)
      have hL7 : k30.R 30 W7 bL (fun k => k < ge) (.slice (some ad) n d) L := Kd.R_below (R_eye (Kd.R_below i9 hwab) hE6) hb7
      have hB7 : Below w.heap.size w W7 := below_step ((i8.trans (hwab.mono i8.size)).trans (hE6.2.2.mono HGW.out)) hb7
      have hP7 : (Kd.int .u8).C W7 P lp cur := Kd.C_below (C_low (Kd.C_below i2 hwab) (fun ad e => Nat.lt_of_lt_of_le (i4 ad e) HGE.out) hE6.2.2) hb7
      have hV7 := Kd.R_below hvb hb7
      have hBP7 : BP ≤ W7.heap.size := by have := HGE.out; have := hb7.size; have := HGE2.out; omega
      have HW7 := Aside0.mk hW7
      have HE7 := Aside0.mk hE67
      have HL7 := Aside0.mk hL7
      have HB7 := Aside0.mk hB7
      have HP7 := Aside0.mk hP7
      have HV7 := Aside0.mk (Rn_C hV7)
      have HU0 := Aside0.mk u0
      have HU1 := Aside0.mk u1
      have HU2 := Aside0.mk u2
      have HS7 := Aside0.mk (⟨blk_lt u2, by have := HGE2.out; omega, by omega⟩ : w6.heap.size + 1 < W7.heap.size ∧ ge < w6.heap.size ∧ Be ≤ w6.heap.size)
      have HT := Aside0.mk (⟨i3, i4, i5⟩ : lp ≤ dp ∧ (∀ ad, P = some ad → ad.block < BP) ∧ (bad = true → cur = []))
      have HLB := Aside0.mk hlb
      have HCUR := Aside0.mk i7
      have HIN := Aside0.mk (Kd.R_lt hvb)
      have HBP7 := Aside0.mk hBP7
      clear hE6 hvb hwa hwas hwab hb0 hs6 hW7 hb7 u0 u1 u2 i1 i2 i3 i4 i5 i6 i7 i8 i9 i10 hBeW hE67 hL7 hB7 hP7 hV7 hBP7 hlb K1 HI HX0 x0 x1 x2 x3
      cases bad with
      | true =>
        obtain rfl := HBD.out rfl
        obtain ⟨rfl, rfl, rfl⟩ := H30.out rfl
        have hc0 : cur = [] := HT.out.2.2 rfl
        subst hc0
        obtain rfl : lb = 0 := HLB.out.symm
        obtain rfl : lp = 0 := HP7.out.1.symm
        go_wp2_with fail
        rw [HW7.out]
        refine (like_any true _ _ _ _ _ _ Qb none 0 0 db 0 [] [] W7 HV7.out.2.2 HV7.out.2.1 (Kd.C_nil _ _) (Nat.le_refl _) (by simp)).mono ?_
        rintro e w8 ⟨rfl, hb8⟩
        have h7 : TInv w W7 ge Be BP bL L (.slice (some ad) n d) [] true P 0 dp := ⟨HE7.out, HP7.out, HT.out.1, HT.out.2.1, (fun _ => rfl), Bytes.nil, Nat.zero_le _, HB7.out, HL7.out, by have := HS7.out; omega⟩
        have H2 := Aside0.mk (h7.low hb8 (by have := HS7.out; omega) (by have := HS7.out; omega) (by have := HBP7.out; omega) (by have := HB7.out.size; omega))
        have KL := Aside0.mk (left_any ge Be _ _ _ H2.out.1)
        have hmx := HMX.out
        clear hb8 h7
        go_wp2_with fail
        refine KL.out.mono ?_
        rintro e w11 ⟨rfl, rfl⟩
        clear KL
        go_wp2_with fail
        go_roundw
        case rel => exact ⟨i + 1, _, _, _, _, _, by omega, rfl, by rfl, by go_num, H2⟩
        case measure => simp [intOf]; omega
      | false =>
        have KT := Aside0.mk (HKR.out rfl W7 HP7.out HBP7.out)
        have z0 := blk_cell HU0.out 0
        rw [← HW7.out] at z0
        have z1 := blk_cell HU0.out 1
        rw [← HW7.out] at z1
        have z2 := blk_cell HU0.out 2
        rw [← HW7.out] at z2
        have z3 := blk_cell HU0.out 3
        rw [← HW7.out] at z3
        go_wp2_with fail
        rw [HW7.out]
        refine KT.out.mono ?_
        rintro e w8 ⟨vb2, A9, c9, rfl, hR2, hC2, hc2, hA2, hB8⟩
        simp only at hR2 hC2 hc2
        obtain ⟨Q2, d2, hv⟩ := Kd.R_slice hR2
        rw [HLB.out] at hv
        subst hv
        obtain ⟨l9, hl9⟩ : ∃ l9, l'.length = l9 := ⟨_, rfl⟩
        rw [hl9] at hC2 hc2
        simp only
        rw [hl9]
        have HL9 := Aside0.mk hl9
        have hal9 := below_alloc (Below.refl w8.heap.size w8) (.cells #[.int .u8 f0, .int .u64 N, .slice Q2 lb d2, .int .u64 f3] 30)
        obtain ⟨W9, hW9⟩ : ∃ W9, w8.alloc (.cells #[.int .u8 f0, .int .u64 N, .slice Q2 lb d2, .int .u64 f3] 30) = W9 := ⟨_, rfl⟩
        rw [hW9] at hal9
        have hb79 : Below W7.heap.size W7 W9 := below_step hB8 hal9
        have v1 := blk_below HU1.out hb79
        have v2 := blk_below HU2.out hb79
        have HR9 := Aside0.mk (Kd.R_below (Kd.R_mono (Kd.R_bound hR2) (ok' := fun k => W7.heap.size ≤ k) (fun k hk => hk.2.1)) hal9)
        have HC9 := Aside0.mk (Kd.C_below hC2 hal9)
        have HD9 := Aside0.mk (⟨hc2, hA2⟩ : l9 ≤ c9 ∧ ∀ ad, A9 = some ad → ad.block < BP)
        have HB79 := Aside0.mk hb79
        have HW9 := Aside0.mk hW9
        have HS9 := Aside0.mk (show W7.heap.size ≤ W9.heap.size from hb79.size)
        have v3 : W9.heap[w8.heap.size]? = some (.cells #[.int .u8 f0, .int .u64 N, .slice Q2 lb d2, .int .u64 f3] 30 (0, 0)) := by rw [← hW9]; exact blk_new _ _
        have a10 := blk_cell v1 0
        have a20 := blk_cell v2 0
        have a30 := blk_cell v3 0
        have g20 := blk_frozen v2 0
        rw [← hW9] at a10 a20 a30 g20
        have a11 := blk_cell v1 1
        have a21 := blk_cell v2 1
        have a31 := blk_cell v3 1
        have g21 := blk_frozen v2 1
        rw [← hW9] at a11 a21 a31 g21
        have a12 := blk_cell v1 2
        have a22 := blk_cell v2 2
        have a32 := blk_cell v3 2
        have g22 := blk_frozen v2 2
        rw [← hW9] at a12 a22 a32 g22
        have a13 := blk_cell v1 3
        have a23 := blk_cell v2 3
        have a33 := blk_cell v3 3
        have g23 := blk_frozen v2 3
        rw [← hW9] at a13 a23 a33 g23
        clear hR2 hC2 hc2 hA2 hB8 hal9 hl9 hb79 KT z0 z1 z2 z3 v1 v2 v3 hW9
        cases b' with
        | true =>
          obtain ⟨rfl, rfl, rfl⟩ := H30.out rfl
          obtain rfl : lb = 0 := HLB.out.symm
          obtain rfl : l9 = 0 := HL9.out.symm
          go_wp2_with fail
          (try rw [HW9.out])
          refine (like_any true _ _ _ _ _ _ Qb none 0 0 db 0 [] [] W9 (Kd.C_below HV7.out.2.2 HB79.out) HV7.out.2.1 (Kd.C_nil _ _) (Nat.le_refl _) (by simp)).mono ?_
          rintro e w10 ⟨rfl, hb8⟩
          have h7 : TInv w W9 ge Be BP bL L (.slice (some ad) n d) [] true none 0 0 := ⟨(HE7.out.below (HB79.out.mono (by have := HS7.out; omega)) (by have := HS7.out; omega)), Kd.C_nil _ _, Nat.le_refl _, (fun ad e => nomatch e), (fun _ => rfl), Bytes.nil, Nat.zero_le _, (below_step HB7.out HB79.out), (Kd.R_below HL7.out HB79.out), by have := HS7.out; have := HS9.out; omega⟩
          have H2 := Aside0.mk (h7.low hb8 (by have := HS7.out; have := HS9.out; omega) (by have := HS7.out; have := HS9.out; omega) (by have := HBP7.out; have := HS9.out; omega) (by have := HB7.out.size; have := HS9.out; omega))
          have KL := Aside0.mk (left_any ge Be _ _ _ H2.out.1)
          have hmx := HMX.out
          clear hb8 h7
          go_wp2_with fail
          refine KL.out.mono ?_
          rintro e w11 ⟨rfl, rfl⟩
          clear KL
          go_wp2_with fail
          go_roundw
          case rel => exact ⟨i + 1, _, _, _, _, _, by omega, rfl, by rfl, by go_num, H2⟩
          case measure => simp [intOf]; omega
        | false =>
          go_wp2_with fail
          rw [HW9.out]
          obtain ⟨W10, hW10⟩ : ∃ W10, (((W9.setCell ⟨w6.heap.size + 1, 0, none⟩ (.int .u8 f0)).setCell ⟨w6.heap.size + 1, 1, none⟩ (.int .u64 N)).setCell ⟨w6.heap.size + 1, 2, none⟩ (.slice Q2 lb d2)).setCell ⟨w6.heap.size + 1, 3, none⟩ (.int .u64 f3) = W10 := ⟨_, rfl⟩
          have hbs : Below w6.heap.size W9 W10 := by rw [← hW10]; exact ((((Below.refl _ _).setCell (Nat.le_succ _) _).setCell (Nat.le_succ _) _).setCell (Nat.le_succ _) _).setCell (Nat.le_succ _) _
          have hs7 := HS7.out
          have hs9 := HS9.out
          have hc2 : (Kd.int .u8).C W10 Q2 lb bs := by
            rw [← hW10]
            exact (Rn_C (Kd.R_far (Kd.R_far (Kd.R_far (Kd.R_far HR9.out (fun k hk => by show k ≠ w6.heap.size + 1; omega) _) (fun k hk => by show k ≠ w6.heap.size + 1; omega) _) (fun k hk => by show k ≠ w6.heap.size + 1; omega) _) (fun k hk => by show k ≠ w6.heap.size + 1; omega) _)).2.2
          have hcb : (Kd.int .u8).C W10 Qb lb bs := C_low (B := w6.heap.size) (Kd.C_below HV7.out.2.2 HB79.out) (fun ad e => HIN.out ad.block (by rw [e]; rfl)) hbs
          have h9 : TInv w W9 ge Be BP bL L (.slice (some ad) n d) l' false A9 l9 c9 := ⟨HE7.out.below (HB79.out.mono (by omega)) (by omega), HC9.out, HD9.out.1, HD9.out.2, (fun h => by cases h), HFA.out.1, Nat.le_trans HFA.out.2.1 HCUR.out, below_step HB7.out HB79.out, Kd.R_below HL7.out HB79.out, by omega⟩
          have h10 := h9.low hbs (by omega) (by omega) (by have := HGE.out; omega) (by have := HGW.out; omega)
          have hd2 := (Rn_C HR9.out).2.1
          rw [hW10]
          refine (like_any true _ _ _ _ _ _ Qb Q2 lb lb db d2 bs bs W10 hcb HV7.out.2.1 hc2 hd2 (by simp)).mono ?_
          rintro e w10 ⟨rfl, hb8⟩
          have hsz : W9.heap.size = W10.heap.size := by rw [← hW10]; simp
          have H2 := Aside0.mk (h10.low hb8 (by omega) (by omega) (by have := HGE.out; omega) (by have := HGW.out; omega))
          have KL := Aside0.mk (left_any ge Be _ _ _ H2.out.1)
          rw [HL9.out] at KL
          have hmx := HMX.out
          clear hb8 h9 h10 hcb hc2 hbs hW10 hsz hs7 hs9 hd2
          clear a10 a11 a12 a13 a20 a21 a22 a23 a30 a31 a32 a33 g20 g21 g22 g23
          go_wp2_with fail
          refine KL.out.mono ?_
          rintro e w11 ⟨rfl, rfl⟩
          clear KL
          go_wp2_with fail
          go_roundw
          case rel => exact ⟨i + 1, _, _, _, _, _, by omega, rfl, by rfl, by go_num, H2⟩
          case measure => simp [intOf]; omega
    · obtain rfl : i = n := by omega
      have d1 : decide (i < i) = false := decide_eq_false (by omega)
      have KD := Aside0.mk (done_any ge Be cur bad wr i1)
      have HB := Aside0.mk i8
      have hcase : (bad = true ∧ cur = []) ∨ (bad = false ∧ cur = []) ∨ (bad = false ∧ 0 < cur.length) := by
        cases bad
        · rcases Nat.eq_zero_or_pos cur.length with h | h
          · exact .inr (.inl ⟨rfl, List.length_eq_zero_iff.1 h⟩)
          · exact .inr (.inr ⟨rfl, h⟩)
        · exact .inl ⟨rfl, i5 rfl⟩
      clear i1 i2 i3 i4 i5 i6 i7 i8 i9 i10 H hlen hi hlt hmx
      rcases hcase with ⟨rfl, rfl⟩ | ⟨rfl, rfl⟩ | ⟨rfl, hp⟩
      · rw [if_pos (.inl rfl)] at KD
        clear hlp
        go_wp2_with fail
        refine KD.out.mono ?_
        rintro e w8 ⟨rfl, rfl⟩
        clear KD
        go_wp2_with fail
        go_ret
        exact ⟨rfl, HB.out⟩
      · rw [if_neg (by rintro (h | h); cases h; cases h)] at KD
        obtain rfl : lp = 0 := hlp
        go_wp2_with fail
        refine KD.out.mono ?_
        rintro e w8 ⟨rfl, rfl⟩
        clear KD
        go_wp2_with fail
        go_ret
        exact ⟨rfl, HB.out⟩
      · rw [if_pos (.inr hp)] at KD
        have z1 : ((lp : Int) == 0) = false := by simp; omega
        have z1' : (lp == 0) = false := by simp; omega
        clear hlp hp
        go_wp2_with fail
        refine KD.out.mono ?_
        rintro e w8 ⟨rfl, rfl⟩
        clear KD
        go_wp2_with fail
        go_ret
        exact ⟨rfl, HB.out⟩
end Go.Proofs.Ythllblcbmpehlaa
