/- The walk of InkLays. -/
import Derived.Test.YthllblcbmpehlaaNv
import Derived.Test.YthllblcbmpehlaaN4
import Derived.Test.YthllblcbmpehlaaN1
namespace Go.Proofs.Ythllblcbmpehlaa
open Go.RowKit Go.Proofs.YthllblcbmpehlaaW.PrintWords Go.Proofs.YthllblcbmpehlaaW.PrintLast Go.Proofs.YthllblcbmpehlaaW.PrintMore
set_option linter.unusedVariables false
set_option linter.unusedSimpArgs false

theorem layAll_drop {L : List S30} {i : Nat} (h : i < L.length) : layAll (L.drop i) = layN L[i] ++ layAll (L.drop (i + 1)) := by
  unfold layAll
  rw [List.drop_eq_getElem_cons h, List.map_cons, List.flatten_cons]
theorem layAll_bytes {L : List S30} (h : ∀ x ∈ L, Fd x ∧ x.f2.length ≤ 40) : Bytes (layAll L) := by
  refine Bytes.flatten (fun p hp => ?_)
  obtain ⟨x, hx, rfl⟩ := List.mem_map.1 hp
  unfold layN
  repeat' split
  all_goals (first | exact lowN_bytes _ _ | exact numN_bytes _ | exact Bytes.append (numN_bytes _) (h x hx).1.2.2.1)
theorem askN_Fd {x : S30} (h : Fd x) : Fd (askN x) := ⟨h.1, h.2.1, h.2.2.1, by unfold askN; simp only; split <;> omega⟩
/-- What stands at the begin of each round of the first loop. -/
def LInv (w2 wr : World) (b : Nat) (pn : List Int) (v : Value) (P : Option Addr) (lp dp : Nat) : Prop :=
  Pn wr b b pn v ∧ (Kd.int .u8).C wr P lp pn ∧ lp ≤ dp ∧ (∀ ad, P = some ad → v.ownBlock ≠ some ad.block ∧ ad.block ≠ b ∧ ad.block < wr.heap.size) ∧ Below b w2 wr
/-- .. of the second one. -/
def LTwo (w2 wr : World) (b ge Be BP : Nat) (cur : List Int) (P : Option Addr) (lp dp : Nat) : Prop :=
  Ey wr ge Be cur false ∧ (Kd.int .u8).C wr P lp cur ∧ lp ≤ dp ∧ (∀ ad, P = some ad → ad.block < BP) ∧ Below b w2 wr ∧ Be ≤ wr.heap.size
theorem LTwo.low {w2 wr w' : World} {b ge Be BP y : Nat} {cur : List Int} {P : Option Addr} {lp dp : Nat} (h : LTwo w2 wr b ge Be BP cur P lp dp) (hb : Below y wr w') (h1 : b ≤ y) (h2 : Be ≤ y) (h3 : BP ≤ y) : LTwo w2 w' b ge Be BP cur P lp dp := by
  obtain ⟨i1, i2, i3, i4, i5, i6⟩ := h
  exact ⟨i1.below (hb.mono h2) i6, C_low i2 (fun ad e => Nat.lt_of_lt_of_le (i4 ad e) h3) hb, i3, i4, i5.trans (hb.mono h1), Nat.le_trans i6 hb.size⟩

set_option maxRecDepth 100000 in
set_option maxHeartbeats 8000000 in
theorem lays_walk (A : Option Addr) (len c : Nat) (l : List S30) (w : World) (hr : k30.C w A len l) (hc : len ≤ c) (hf : ∀ x ∈ l, Fd x ∧ x.f2.length ≤ 9223372036854775807) :
    Calls Try.prog 7 #[.slice A len c] w fun e w' => e = .returned (.bool true) ∧ Below w.heap.size w w' := by
  have HR := Aside0.mk hr
  have HF := Aside0.mk hf
  have HC := Aside0.mk hc
  clear hr hf hc
  go_enter Try.func7, Try.ntmps7
  go_wp2_with fail
  refine (awake_any _).mono ?_
  rintro e w1 ⟨rfl, hb1⟩
  have HB1 := Aside0.mk hb1
  have HR1 := Aside0.mk (Kd.C_below HR.out hb1)
  clear hb1 HR
  go_wp2_with fail
  refine (few_any _ _ _ l _ HR1.out HC.out (fun x hx => (HF.out x hx).2)).mono ?_
  rintro e w2 ⟨v2, rfl, hv2, hb2⟩
  obtain ⟨L, hL⟩ : ∃ L, fewN l = L := ⟨_, rfl⟩
  have HFL := Aside0.mk (fewN_mem (fun x hx => (HF.out x hx).1))
  have HLL := Aside0.mk (fewN_length l)
  rw [hL] at hv2 HFL HLL
  obtain ⟨Q, d, hv⟩ := Kd.R_slice hv2
  obtain ⟨n, hn⟩ : ∃ n, L.length = n := ⟨_, rfl⟩
  rw [hn] at hv HLL
  subst hv
  obtain ⟨r1, r2, r3⟩ := Rn_C hv2
  have HB2 := Aside0.mk (below_step HB1.out hb2)
  have HC4 := Aside0.mk r3
  have HN := Aside0.mk hn
  clear hv2 hb2 hL hn r1 r2 r3 HR1 HB1 HC HF
  obtain ⟨b, hb⟩ : ∃ b, w2.heap.size = b := ⟨_, rfl⟩
  have q1 : (w2.alloc (.cells #[.slice none 0 0] 27)).heap[b]? = some (.cells #[.slice none 0 0] 27 (0, 0)) := by rw [← hb]; exact blk_new _ _
  have hal : Below b w2 (w2.alloc (.cells #[.slice none 0 0] 27)) := by rw [← hb]; exact below_alloc (Below.refl _ _) _
  have HW := Aside0.mk (show w.heap.size ≤ b by rw [← hb]; exact HB2.out.size)
  have HBE := Aside0.mk hb
  have H0 : Aside0 (LInv w2 (w2.alloc (.cells #[.slice none 0 0] 27)) b [] (.slice none 0 0) none 0 0) := ⟨⟨pen_new q1, Kd.C_nil _ _, Nat.le_refl _, (fun ad e => nomatch e), hal⟩⟩
  clear q1 hal
  go_wp2_with fail
  (try rw [hb])
  generalize w2.alloc (.cells #[.slice none 0 0] 27) = w4 at *
  clear hb
  go_loopw [4, 21] (fun v4 v21 wr => ∃ (i : Nat) (v : Value) (P : Option Addr) (lp dp : Nat), i ≤ n ∧ v4 = .slice P lp dp ∧ v21 = .int .i64 i ∧ Aside0 (LInv w2 wr b (layAll (L.take i)) v P lp dp)) (fun _ v21 _ => n - (intOf v21).toNat)
  case atStart => exact ⟨0, _, none, 0, 0, by omega, rfl, rfl, ⟨by simpa [layAll] using H0.out⟩⟩
  case round =>
    clear H0
    obtain ⟨i, v, P, lp, dp, hi, rfl, rfl, H⟩ := hrel
    have hmx : n ≤ 12 := HLL.out
    have hlen : L.length = n := HN.out
    by_cases hlt : i < n
    · obtain ⟨i1, i2, i3, i4, i5⟩ := H.out
      have hi5 : Below w2.heap.size w2 wr := i5.mono (Nat.le_of_eq HBE.out)
      obtain ⟨ad, B, cB, hA, x0, x1, x2, x3, hxc, hxd⟩ := field_at (Kd.C_below HC4.out hi5) i (by omega)
      obtain ⟨ad0, B0, cB0, hA0, y0, y1, y2, y3, hyc, hyd⟩ := field_at HC4.out i (by omega)
      have hmem := HFL.out _ (List.getElem_mem (show i < L.length by omega))
      have hst := layAll_take (L := L) (i := i) (by omega)
      have hple := layAll_take_le HFL.out (by omega) i
      generalize L[i]'(by omega) = x at *
      subst hA
      obtain rfl := Option.some.inj hA0
      have hBB : Value.slice B0 x.f2.length cB0 = Value.slice B x.f2.length cB := by
        have := pw_cell_below hi5 y2
        rw [x2] at this
        exact (Option.some.inj this).symm
      injection hBB with e1 _ e2
      subst e1 e2
      obtain ⟨pn, hpn⟩ : ∃ pn, layAll (L.take i) = pn := ⟨_, rfl⟩
      rw [hpn] at i1 i2 hst hple
      have hal := below_alloc (Below.refl wr.heap.size wr) (.cells #[.int .u8 x.f0, .int .u64 x.f1, .slice B0 x.f2.length cB0, .int .u64 x.f3] 30)
      obtain ⟨wa, hwa⟩ : ∃ wa, wr.alloc (.cells #[.int .u8 x.f0, .int .u64 x.f1, .slice B0 x.f2.length cB0, .int .u64 x.f3] 30) = wa := ⟨_, rfl⟩
      have hbb : b < wr.heap.size := i1.lt
      rw [hwa] at hal
      have hba : Below b w2 wa := i5.trans (hal.mono (Nat.le_of_lt hbb))
      have hq := fun (w' w'' : World) (h1 : Below b w2 w') (h2 : Below b w' w'') => Kd.C_below hyd ((h1.trans h2).mono (Nat.le_of_eq HBE.out))
      have K1 := Aside0.mk (lay_any b b pn v x B0 cB0 wa hmem.1 (i1.below hal) (Nat.le_refl _) (by omega) (fun w' _ h2 => hq _ w' hba h2))
      have K2 := Aside0.mk (fun (w5 : World) (h5 : Below b w2 w5) => rlay_any x B0 cB0 w5 hmem.1 (hq _ w5 (Below.refl _ _) h5) hyc (by omega))
      have hblk : wa.heap[wr.heap.size]? = some (.cells #[.int .u8 x.f0, .int .u64 x.f1, .slice B0 x.f2.length cB0, .int .u64 x.f3] 30 (0, 0)) := by rw [← hwa]; exact blk_new _ _
      have hnl := layN_length x hmem.1 (by omega)
      have HWA := Aside0.mk hwa
      have HBA := Aside0.mk hba
      have HBK := Aside0.mk hblk
      have HST := Aside0.mk hst
      have HPL := Aside0.mk (⟨hple, Nat.le_trans hnl (Nat.add_le_add_right hmem.2 10)⟩ : pn.length ≤ 600 ∧ (layN x).length ≤ 40 + 10)
      have HPW := Aside0.mk (⟨Kd.C_below i2 hal, i3, fun ad e => ⟨(i4 ad e).1, (i4 ad e).2.1, Nat.lt_of_lt_of_le (i4 ad e).2.2 hal.size⟩⟩ : (Kd.int .u8).C wa P lp pn ∧ lp ≤ dp ∧ (∀ ad, P = some ad → v.ownBlock ≠ some ad.block ∧ ad.block ≠ b ∧ ad.block < wa.heap.size))
      have HNE := Aside0.mk (⟨by omega, fun k hk => i1.own k hk, hbb⟩ : wr.heap.size ≠ b ∧ (∀ k, v.ownBlock = some k → k < wr.heap.size) ∧ b < wr.heap.size)
      have d1 : decide (i < n) = true := decide_eq_true hlt
      obtain ⟨q9, hq9⟩ : ∃ q, layN x = q := ⟨_, rfl⟩
      rw [hq9] at K1 K2 HST HPL
      obtain ⟨f0, f1, f2, f3⟩ := x
      simp only at x0 x1 x2 x3 K1 K2 HBK HWA
      generalize f2.length = fl at *
      clear hyd hyc y0 y1 y2 y3 hxc hxd hmem hst hple hal hwa hbb hba hq hblk hnl i1 i2 i3 i4 i5 hi5 H hlen hpn hq9
      go_wp2_with fail
      rw [HWA.out]
      refine K1.out.mono ?_
      rintro e w5 ⟨v1, rfl, h⟩
      have hsl := blk_lt HBK.out
      have hblk : w5.heap[wr.heap.size]? = some (.cells #[.int .u8 f0, .int .u64 f1, .slice B0 fl cB0, .int .u64 f3] 30 (0, 0)) := (h.2.1.2 _ hsl HNE.out.1 (fun e => absurd (HNE.out.2.1 _ e.symm) (Nat.lt_irrefl _))).trans HBK.out
      have z0 := blk_cell hblk 0
      have z1 := blk_cell hblk 1
      have z2 := blk_cell hblk 2
      have z3 := blk_cell hblk 3
      have hb5 := HBA.out.trans h.2.2.2
      have K3 := Aside0.mk (K2.out w5 hb5)
      have HP5 := Aside0.mk h.1
      have HB5 := Aside0.mk hb5
      have HC5 := Aside0.mk (eye_block wa w5 HPW.out.1 (fun ad e => h.2.1.2 _ (HPW.out.2.2 ad e).2.2 (HPW.out.2.2 ad e).2.1 (fun e' => (HPW.out.2.2 ad e).1 e'.symm)))
      clear h hblk hb5 K1 K2 HBK HBA hsl x0 x1 x2 x3
      go_wp2_with fail
      refine K3.out.mono ?_
      rintro e w6 ⟨v9, rfl, ho, hb6⟩
      obtain ⟨X, dx, hv⟩ := Kd.R_slice ho
      obtain ⟨lx, hlx⟩ : ∃ lx, q9.length = lx := ⟨_, rfl⟩
      rw [hlx] at hv
      subst hv
      obtain ⟨r1, r2, r3⟩ := Rn_C ho
      have hal := below_alloc (Below.refl w6.heap.size w6) (.cells #[.slice P lp dp, .slice X lx dx] 25)
      have hj := C_of_two (e := 5) (blk_new w6 (.cells #[.slice P lp dp, .slice X lx dx] 25)) (Kd.C_below (Kd.C_below HC5.out hb6) hal) HPW.out.2.1 (Kd.C_below r3 hal) r2
      have KJ := Aside0.mk (join_any _ 2 2 [pn, q9] _ hj (Nat.le_refl _) (by have := HPL.out; simp; omega))
      have HFJ : Aside0 ([pn, q9].flatten = layAll (L.take (i + 1))) := ⟨by rw [HST.out]; simp⟩
      rw [HFJ.out] at KJ
      have HP6 := Aside0.mk ((HP5.out.below hb6).below hal)
      rw [← HST.out] at HP6
      have hs5 := HP5.out.lt
      have HB6 := Aside0.mk (HB5.out.trans ((hb6.mono (Nat.le_of_lt hs5)).trans (hal.mono (by have := hb6.size; omega))))
      clear ho hb6 hlx r1 r2 r3 hal hj K3 HP5 HB5 HC5 z0 z1 z2 z3 hs5
      go_wp2_with fail
      refine KJ.out.mono ?_
      rintro e w7 ⟨v8, rfl, ho, hb7⟩
      obtain ⟨Y, dy, hv⟩ := Kd.R_slice ho
      obtain ⟨ly, hly⟩ : ∃ ly, (layAll (L.take (i + 1))).length = ly := ⟨_, rfl⟩
      rw [hly] at hv
      subst hv
      obtain ⟨r1, r2, r3⟩ := Rn_C ho
      have hs6 := HP6.out.lt
      have hbase := Kd.R_base ho
      have hlt9 := Kd.R_lt ho
      have H2 : Aside0 (LInv w2 w7 b (layAll (L.take (i + 1))) v1 Y ly dy) := ⟨⟨HP6.out.below hb7, r3, r2, fun ad e => ⟨fun e' => by
        have h1 := HP6.out.own _ e'
        have h2 := hbase ad.block (by rw [e]; rfl)
        omega, ⟨by have h2 := hbase ad.block (by rw [e]; rfl); omega, hlt9 ad.block (by rw [e]; rfl)⟩⟩, HB6.out.trans (hb7.mono (Nat.le_of_lt hs6))⟩⟩
      clear ho hb7 hly r1 r2 r3 hs6 hbase hlt9 KJ HP6 HB6 HFJ
      go_wp2_with fail
      go_roundw
      case rel => exact ⟨i + 1, _, _, _, _, by omega, rfl, by go_num, H2⟩
      case measure => simp [intOf]; omega
    · have hn : i = n := by omega
      subst hn
      have H1 := H.out
      rw [List.take_of_length_le (by omega)] at H1
      obtain ⟨i1, i2, i3, i4, i5⟩ := H1
      have hll := layAll_take_le HFL.out (by omega) L.length
      rw [List.take_of_length_le (Nat.le_refl _)] at hll
      have KB := Aside0.mk (pbytes_any b b (layAll L) v wr i1 (by omega))
      have HP := Aside0.mk (⟨i2, i3, fun ad e => (i4 ad e).2.2⟩ : (Kd.int .u8).C wr P lp (layAll L) ∧ lp ≤ dp ∧ (∀ ad, P = some ad → ad.block < wr.heap.size))
      have HI5 := Aside0.mk i5
      have HBW := Aside0.mk i1.lt
      have HAL := Aside0.mk hll
      have d1 : decide (i < i) = false := decide_eq_false (by omega)
      clear H i1 i2 i3 i4 i5 hlt hi hlen
      go_wp2_with fail
      refine KB.out.mono ?_
      rintro e u1 ⟨vo, rfl, ho, hb1⟩
      obtain ⟨X, dx, hv⟩ := Kd.R_slice ho
      obtain ⟨ln, hln⟩ : ∃ ln, (layAll L).length = ln := ⟨_, rfl⟩
      obtain rfl : lp = ln := by rw [← hln]; exact HP.out.1.1.symm
      rw [hln] at hv
      subst hv
      obtain ⟨r1, r2, r3⟩ := Rn_C ho
      have C1 := Aside0.mk r3
      have D1 := Aside0.mk r2
      have C2 := Aside0.mk (Kd.C_below HP.out.1 hb1)
      have HB1 := Aside0.mk (HI5.out.trans (hb1.mono (Nat.le_of_lt HBW.out)))
      have HPA := Aside0.mk (show ∀ ad, P = some ad → ad.block < u1.heap.size from fun ad e => Nat.lt_of_lt_of_le (HP.out.2.2 ad e) hb1.size)
      have HPD := Aside0.mk (show lp ≤ dp from HP.out.2.1)
      have HLN := Aside0.mk hln
      have HBU := Aside0.mk (Nat.lt_of_lt_of_le HBW.out hb1.size)
      clear ho hb1 r1 r2 r3 KB HP HI5 hln hll HBW
      go_wp2_with fail
      refine (same_is true _ _ _ _ _ _ _ _ _ C1.out D1.out C2.out HPD.out (by simp)).mono ?_
      rintro e u2 ⟨rfl, nd, rfl⟩
      have C3 := Aside0.mk (Kd.C_drewN C1.out nd)
      have C4 := Aside0.mk (Kd.C_drewN C2.out nd)
      have HB2' := Aside0.mk (pw_below_drewN HB1.out nd)
      have HPA2 := Aside0.mk (show ∀ ad, P = some ad → ad.block < (u1.drewN nd).heap.size from fun ad e => by simpa using HPA.out ad e)
      have HBU2 := Aside0.mk (show b < (u1.drewN nd).heap.size by simpa using HBU.out)
      clear C1 C2 HB1 HPA HBU
      generalize u1.drewN nd = u2 at *
      go_wp2_with fail
      refine (read_any _ _ _ (layAll L) _ C3.out (by have := HAL.out; have := HLN.out; omega)).mono ?_
      rintro e u3 ⟨ge, rfl, hge, hE, hb3⟩
      have H0 : Aside0 (LTwo w2 u3 b ge u3.heap.size u2.heap.size (layAll (L.drop 0)) P lp dp) := ⟨⟨hE, Kd.C_below C4.out hb3, HPD.out, HPA2.out, HB2'.out.trans (hb3.mono (Nat.le_of_lt HBU2.out)), Nat.le_refl _⟩⟩
      have HGE := Aside0.mk (⟨hge, hE.lt.1, Nat.le_trans (Nat.le_of_lt HBU2.out) hge⟩ : u2.heap.size ≤ ge ∧ ge < u3.heap.size ∧ b ≤ ge)
      generalize u3.heap.size = Be at *
      generalize u2.heap.size = BP at *
      have HNN := Aside0.mk hmx
      clear hge hE hb3 C3 C4 HB2' HPA2 HBU2 HPD HLN D1
      go_wp2_with fail
      go_loopw [4, 42] (fun v4 v42 wr => ∃ (k : Nat) (P : Option Addr) (lp dp : Nat), k ≤ i ∧ v4 = .slice P lp dp ∧ v42 = .int .i64 k ∧ Aside0 (LTwo w2 wr b ge Be BP (layAll (L.drop k)) P lp dp)) (fun _ v42 _ => i - (intOf v42).toNat)
      case atStart => exact ⟨0, P, lp, dp, by omega, rfl, rfl, H0⟩
      case round =>
        clear H0
        obtain ⟨k, P, lp, dp, hk, rfl, rfl, H⟩ := hrel
        have hlen : L.length = i := HN.out
        by_cases hlt : k < i
        · obtain ⟨i1, i2, i3, i4, i5, i6⟩ := H.out
          have hi5 : Below w2.heap.size w2 wr := i5.mono (Nat.le_of_eq HBE.out)
          obtain ⟨ad, B, cB, hA, x0, x1, x2, x3, hxc, hxd⟩ := field_at (Kd.C_below HC4.out hi5) k (by omega)
          have hmem := HFL.out _ (List.getElem_mem (show k < L.length by omega))
          have hdr := layAll_drop (L := L) (i := k) (by omega)
          have hbys := layAll_bytes (L := L.drop k) (fun x hx => HFL.out x (List.mem_of_mem_drop hx))
          have hdl := layAll_le (L := L.drop k) (fun x hx => HFL.out x (List.mem_of_mem_drop hx))
          rw [List.length_drop] at hdl
          generalize L[k]'(by omega) = x at *
          subst hA
          obtain ⟨N, bs, hN⟩ := lay_take x hmem.1 hmem.2 (layAll (L.drop (k + 1)))
          rw [← hdr] at hN
          obtain ⟨cur, hcur⟩ : ∃ cur, layAll (L.drop k) = cur := ⟨_, rfl⟩
          rw [hcur] at i1 i2 hN hbys hdl
          obtain ⟨l', hl'⟩ : ∃ l', layAll (L.drop (k + 1)) = l' := ⟨_, rfl⟩
          rw [hl'] at hN
          obtain ⟨mo, hmo, hmo2⟩ : ∃ mo : Int, (askN x).f3 = mo ∧ (Int.tmod x.f0 5 = 4 → mo = 40) ∧ (Int.tmod x.f0 5 ≠ 4 → mo = 18446744073709551615) := ⟨_, rfl, (fun h => by unfold askN; simp only; rw [if_pos h]), (fun h => by unfold askN; simp only; rw [if_neg h])⟩
          obtain ⟨wa, hwa⟩ : ∃ wa, wr.alloc (.cells #[.int .u8 x.f0, .int .u64 x.f1, .slice B x.f2.length cB, .int .u64 mo] 30) = wa := ⟨_, rfl⟩
          have hal : Below wr.heap.size wr wa := by rw [← hwa]; exact below_alloc (Below.refl _ _) _
          have hE1 := i1.below (hal.mono i6) i6
          have K1 := take_any ge Be cur false (askN x) B cB wa (askN_Fd hmem.1) hE1 (Nat.le_trans i6 hal.size) hbys (by omega) (fun h => by have h4 : Int.tmod x.f0 5 = 4 := h; rw [hmo, hmo2.1 h4]; decide)
          have KR := fun (W : World) (h1 : (Kd.int .u8).C W P lp cur) (h2 : BP ≤ W.heap.size) => rtake_any BP cur (askN x) P lp dp B cB W (askN_Fd hmem.1) h1 i4 h2 i3 hbys (by omega) (fun h => by have h4 : Int.tmod x.f0 5 = 4 := h; rw [hmo, hmo2.1 h4]; decide)
          have hy : askN x = ⟨x.f0, x.f1, x.f2, mo⟩ := by rw [← hmo]; rfl
          rw [hN, hy] at K1
          have hN2 := hN
          rw [hy] at hN2
          simp only [hy, hN2] at KR
          simp only at K1
          have hfa := eTake_facts (askN x) (askN_Fd hmem.1) cur false hbys
          rw [hN] at hfa
          simp only at hfa
          have hblk : wa.heap[wr.heap.size]? = some (.cells #[.int .u8 x.f0, .int .u64 x.f1, .slice B x.f2.length cB, .int .u64 mo] 30 (0, 0)) := by rw [← hwa]; exact blk_new _ _
          have hx0 : wr.heap.size ≠ ge := by have := i1.lt.1; omega
          have HK1 := Aside0.mk K1
          have HKR := Aside0.mk KR
          have HBK := Aside0.mk hblk
          have HX0 := Aside0.mk hx0
          have HWA := Aside0.mk hwa
          have HAL9 := Aside0.mk hal
          have HI := Aside0.mk (⟨i2, i3, i4, i5, i6⟩ : (Kd.int .u8).C wr P lp cur ∧ lp ≤ dp ∧ (∀ ad, P = some ad → ad.block < BP) ∧ Below b w2 wr ∧ Be ≤ wr.heap.size)
          have HL' := Aside0.mk hl'
          have HFA := Aside0.mk hfa
          have hk4 : (Int.tmod x.f0 5 = 4 ∧ mo = 40) ∨ ((Int.tmod x.f0 5 == 4) = false ∧ Int.tmod x.f0 5 ≠ 4 ∧ mo = 18446744073709551615) := by
            by_cases h : Int.tmod x.f0 5 = 4
            · exact .inl ⟨h, hmo2.1 h⟩
            · exact .inr ⟨by simpa using h, h, hmo2.2 h⟩
          have e1 : decide (k < i) = true := decide_eq_true hlt
          obtain ⟨f0, f1, f2, f3⟩ := x
          simp only at x0 x1 x2 x3 hk4 HBK HWA HK1
          generalize f2.length = fl at *
          clear K1 KR hblk hx0 hwa hal hE1 hxc hxd hmem hdr hbys hdl hN hcur hl' hmo hmo2 hy hN2 hfa i1 i2 i3 i4 i5 i6 hi5 H hlen
          rcases hk4 with ⟨h4, rfl⟩ | ⟨h4, h4', rfl⟩
          · go_wp2_with fail
            rw [HWA.out]
            refine HK1.out.mono ?_
            rintro e w6 ⟨vb, rfl, hE6, hvb⟩
            simp only at hE6 hvb
            obtain ⟨Qb, db, hv⟩ := Kd.R_slice hvb
            obtain ⟨lb, hlb⟩ : ∃ lb, bs.length = lb := ⟨_, rfl⟩
            rw [hlb] at hv
            subst hv
            obtain ⟨i2, i3, i4, i5, i6⟩ := HI.out
            have hge := HGE.out
            have hwas := blk_lt HBK.out
            have hb0 := (hE6.2.1.2 _ hwas HX0.out (by simp)).trans HBK.out
            have hs6 := hE6.2.1.1
            obtain ⟨W7, hW7⟩ : ∃ W7, w6.alloc (.cells #[.int .u8 f0, .int .u64 N, .slice Qb lb db, .int .u64 40] 30) = W7 := ⟨_, rfl⟩
            have hb7 : Below w6.heap.size w6 W7 := by rw [← hW7]; exact below_alloc (Below.refl _ _) _
            have u0 := blk_below hb0 hb7
            have u1 : W7.heap[w6.heap.size]? = some (.cells #[.int .u8 f0, .int .u64 N, .slice Qb lb db, .int .u64 40] 30 (0, 0)) := by rw [← hW7]; exact blk_new _ _
            have hE67 : Ey W7 ge Be l' false := hE6.1.below (hb7.mono (by omega)) (by omega)
            have hB67 : Below b w2 W7 := ((i5.trans (HAL9.out.mono (by omega))).trans (hE6.2.2.mono hge.2.2)).trans (hb7.mono (by omega))
            have hP7 : (Kd.int .u8).C W7 P lp cur := Kd.C_below (C_low (Kd.C_below i2 HAL9.out) (fun ad e => Nat.lt_of_lt_of_le (i4 ad e) hge.1) hE6.2.2) hb7
            have KT := Aside0.mk (HKR.out W7 hP7 (by have := hb7.size; omega))
            have z0 := blk_cell u0 0
            have z1 := blk_cell u0 1
            have z2 := blk_cell u0 2
            have z3 := blk_cell u0 3
            rw [← hW7] at z0 z1 z2 z3
            have HW7 := Aside0.mk hW7
            have HE7 := Aside0.mk hE67
            have HB7 := Aside0.mk hB67
            have HV7 := Aside0.mk (Rn_C (Kd.R_below hvb hb7))
            have HU1 := Aside0.mk u1
            have HS7 := Aside0.mk (⟨by omega, by omega, by omega, by have := hb7.size; omega⟩ : ge < w6.heap.size ∧ Be ≤ w6.heap.size ∧ b ≤ w6.heap.size ∧ w6.heap.size ≤ W7.heap.size)
            have HLB := Aside0.mk hlb
            clear hE6 hvb hlb i2 i3 i4 i5 i6 hge hwas hb0 hs6 hW7 hb7 u0 u1 hE67 hB67 hP7 HK1 HKR HI x0 x1 x2 x3
            go_wp2_with fail
            rw [HW7.out]
            refine KT.out.mono ?_
            rintro e w8 ⟨vb2, A9, c9, rfl, hR2, hC2, hc2, hA2, hB8⟩
            simp only at hR2 hC2 hc2
            obtain ⟨Q2, d2, hv⟩ := Kd.R_slice hR2
            rw [HLB.out] at hv
            subst hv
            obtain ⟨l9, hl9⟩ : ∃ l9, l'.length = l9 := ⟨_, rfl⟩
            rw [hl9] at hC2 hc2
            simp only
            rw [hl9]
            have hal9 := below_alloc (Below.refl w8.heap.size w8) (.cells #[.int .u8 f0, .int .u64 N, .slice Q2 lb d2, .int .u64 40] 30)
            obtain ⟨W9, hW9⟩ : ∃ W9, w8.alloc (.cells #[.int .u8 f0, .int .u64 N, .slice Q2 lb d2, .int .u64 40] 30) = W9 := ⟨_, rfl⟩
            rw [hW9] at hal9
            have hb79 : Below W7.heap.size W7 W9 := below_step hB8 hal9
            have v1 := blk_below HU1.out hb79
            have v3 : W9.heap[w8.heap.size]? = some (.cells #[.int .u8 f0, .int .u64 N, .slice Q2 lb d2, .int .u64 40] 30 (0, 0)) := by rw [← hW9]; exact blk_new _ _
            have hs9 := hb79.size
            have hs7 := HS7.out
            have h9 : LTwo w2 W9 b ge Be BP l' A9 l9 c9 := ⟨HE7.out.below (hb79.mono (by omega)) (by omega), Kd.C_below hC2 hal9, hc2, hA2, HB7.out.trans (hb79.mono (by omega)), by omega⟩
            have hrr := Rn_C (Kd.R_below hR2 hal9)
            have KK := Aside0.mk (like_any true f0 N 40 f0 N 40 Qb Q2 lb lb db d2 bs bs W9 (Kd.C_below HV7.out.2.2 hb79) HV7.out.2.1 (by have := hrr.2.2; exact this) hrr.2.1 (by simp))
            have H9 := Aside0.mk h9
            have HW9 := Aside0.mk hW9
            have HL9 := Aside0.mk hl9
            have HS9 := Aside0.mk (⟨by omega, by omega, by omega, by have := HGE.out; omega⟩ : ge < W9.heap.size ∧ Be ≤ W9.heap.size ∧ b ≤ W9.heap.size ∧ BP ≤ W9.heap.size)
            have a10 := blk_cell v1 0
            have a11 := blk_cell v1 1
            have a12 := blk_cell v1 2
            have a13 := blk_cell v1 3
            have a30 := blk_cell v3 0
            have a31 := blk_cell v3 1
            have a32 := blk_cell v3 2
            have a33 := blk_cell v3 3
            rw [← hW9] at a10 a11 a12 a13 a30 a31 a32 a33
            clear hR2 hC2 hc2 hA2 hB8 hal9 hl9 hb79 KT z0 z1 z2 z3 v1 v3 hW9 hs9 hs7 h9 hrr
            go_wp2_with fail
            rw [HW9.out]
            refine KK.out.mono ?_
            rintro e w10 ⟨rfl, hb8⟩
            have h10 := H9.out.low hb8 HS9.out.2.2.1 HS9.out.2.1 HS9.out.2.2.2
            have KL := Aside0.mk (left_any ge Be _ _ _ h10.1)
            rw [HL9.out] at KL
            rw [← HL'.out] at h10
            have H2 := Aside0.mk h10
            clear hb8 h10 KK a10 a11 a12 a13 a30 a31 a32 a33
            go_wp2_with fail
            refine KL.out.mono ?_
            rintro e w11 ⟨rfl, rfl⟩
            clear KL
            go_wp2_with fail
            go_roundw
            case rel => exact ⟨k + 1, _, _, _, by omega, rfl, by go_num, H2⟩
            case measure => simp [intOf]; omega
          · go_wp2_with fail
            rw [HWA.out]
            refine HK1.out.mono ?_
            rintro e w6 ⟨vb, rfl, hE6, hvb⟩
            simp only at hE6 hvb
            obtain ⟨Qb, db, hv⟩ := Kd.R_slice hvb
            obtain ⟨lb, hlb⟩ : ∃ lb, bs.length = lb := ⟨_, rfl⟩
            rw [hlb] at hv
            subst hv
            obtain ⟨i2, i3, i4, i5, i6⟩ := HI.out
            have hge := HGE.out
            have hwas := blk_lt HBK.out
            have hb0 := (hE6.2.1.2 _ hwas HX0.out (by simp)).trans HBK.out
            have hs6 := hE6.2.1.1
            obtain ⟨W7, hW7⟩ : ∃ W7, w6.alloc (.cells #[.int .u8 f0, .int .u64 N, .slice Qb lb db, .int .u64 18446744073709551615] 30) = W7 := ⟨_, rfl⟩
            have hb7 : Below w6.heap.size w6 W7 := by rw [← hW7]; exact below_alloc (Below.refl _ _) _
            have u0 := blk_below hb0 hb7
            have u1 : W7.heap[w6.heap.size]? = some (.cells #[.int .u8 f0, .int .u64 N, .slice Qb lb db, .int .u64 18446744073709551615] 30 (0, 0)) := by rw [← hW7]; exact blk_new _ _
            have hE67 : Ey W7 ge Be l' false := hE6.1.below (hb7.mono (by omega)) (by omega)
            have hB67 : Below b w2 W7 := ((i5.trans (HAL9.out.mono (by omega))).trans (hE6.2.2.mono hge.2.2)).trans (hb7.mono (by omega))
            have hP7 : (Kd.int .u8).C W7 P lp cur := Kd.C_below (C_low (Kd.C_below i2 HAL9.out) (fun ad e => Nat.lt_of_lt_of_le (i4 ad e) hge.1) hE6.2.2) hb7
            have KT := Aside0.mk (HKR.out W7 hP7 (by have := hb7.size; omega))
            have z0 := blk_cell u0 0
            have z1 := blk_cell u0 1
            have z2 := blk_cell u0 2
            have z3 := blk_cell u0 3
            rw [← hW7] at z0 z1 z2 z3
            have HW7 := Aside0.mk hW7
            have HE7 := Aside0.mk hE67
            have HB7 := Aside0.mk hB67
            have HV7 := Aside0.mk (Rn_C (Kd.R_below hvb hb7))
            have HU1 := Aside0.mk u1
            have HS7 := Aside0.mk (⟨by omega, by omega, by omega, by have := hb7.size; omega⟩ : ge < w6.heap.size ∧ Be ≤ w6.heap.size ∧ b ≤ w6.heap.size ∧ w6.heap.size ≤ W7.heap.size)
            have HLB := Aside0.mk hlb
            clear hE6 hvb hlb i2 i3 i4 i5 i6 hge hwas hb0 hs6 hW7 hb7 u0 u1 hE67 hB67 hP7 HK1 HKR HI x0 x1 x2 x3
            go_wp2_with fail
            rw [HW7.out]
            refine KT.out.mono ?_
            rintro e w8 ⟨vb2, A9, c9, rfl, hR2, hC2, hc2, hA2, hB8⟩
            simp only at hR2 hC2 hc2
            obtain ⟨Q2, d2, hv⟩ := Kd.R_slice hR2
            rw [HLB.out] at hv
            subst hv
            obtain ⟨l9, hl9⟩ : ∃ l9, l'.length = l9 := ⟨_, rfl⟩
            rw [hl9] at hC2 hc2
            simp only
            rw [hl9]
            have hal9 := below_alloc (Below.refl w8.heap.size w8) (.cells #[.int .u8 f0, .int .u64 N, .slice Q2 lb d2, .int .u64 18446744073709551615] 30)
            obtain ⟨W9, hW9⟩ : ∃ W9, w8.alloc (.cells #[.int .u8 f0, .int .u64 N, .slice Q2 lb d2, .int .u64 18446744073709551615] 30) = W9 := ⟨_, rfl⟩
            rw [hW9] at hal9
            have hb79 : Below W7.heap.size W7 W9 := below_step hB8 hal9
            have v1 := blk_below HU1.out hb79
            have v3 : W9.heap[w8.heap.size]? = some (.cells #[.int .u8 f0, .int .u64 N, .slice Q2 lb d2, .int .u64 18446744073709551615] 30 (0, 0)) := by rw [← hW9]; exact blk_new _ _
            have hs9 := hb79.size
            have hs7 := HS7.out
            have h9 : LTwo w2 W9 b ge Be BP l' A9 l9 c9 := ⟨HE7.out.below (hb79.mono (by omega)) (by omega), Kd.C_below hC2 hal9, hc2, hA2, HB7.out.trans (hb79.mono (by omega)), by omega⟩
            have hrr := Rn_C (Kd.R_below hR2 hal9)
            have KK := Aside0.mk (like_any true f0 N 18446744073709551615 f0 N 18446744073709551615 Qb Q2 lb lb db d2 bs bs W9 (Kd.C_below HV7.out.2.2 hb79) HV7.out.2.1 (by have := hrr.2.2; exact this) hrr.2.1 (by simp))
            have H9 := Aside0.mk h9
            have HW9 := Aside0.mk hW9
            have HL9 := Aside0.mk hl9
            have HS9 := Aside0.mk (⟨by omega, by omega, by omega, by have := HGE.out; omega⟩ : ge < W9.heap.size ∧ Be ≤ W9.heap.size ∧ b ≤ W9.heap.size ∧ BP ≤ W9.heap.size)
            have a10 := blk_cell v1 0
            have a11 := blk_cell v1 1
            have a12 := blk_cell v1 2
            have a13 := blk_cell v1 3
            have a30 := blk_cell v3 0
            have a31 := blk_cell v3 1
            have a32 := blk_cell v3 2
            have a33 := blk_cell v3 3
            rw [← hW9] at a10 a11 a12 a13 a30 a31 a32 a33
            clear hR2 hC2 hc2 hA2 hB8 hal9 hl9 hb79 KT z0 z1 z2 z3 v1 v3 hW9 hs9 hs7 h9 hrr
            go_wp2_with fail
            rw [HW9.out]
            refine KK.out.mono ?_
            rintro e w10 ⟨rfl, hb8⟩
            have h10 := H9.out.low hb8 HS9.out.2.2.1 HS9.out.2.1 HS9.out.2.2.2
            have KL := Aside0.mk (left_any ge Be _ _ _ h10.1)
            rw [HL9.out] at KL
            rw [← HL'.out] at h10
            have H2 := Aside0.mk h10
            clear hb8 h10 KK a10 a11 a12 a13 a30 a31 a32 a33
            go_wp2_with fail
            refine KL.out.mono ?_
            rintro e w11 ⟨rfl, rfl⟩
            clear KL
            go_wp2_with fail
            go_roundw
            case rel => exact ⟨k + 1, _, _, _, by omega, rfl, by go_num, H2⟩
            case measure => simp [intOf]; omega
        · have hkn : k = i := by omega
          subst hkn
          obtain ⟨i1, i2, i3, i4, i5, i6⟩ := H.out
          rw [List.drop_of_length_le (by omega)] at i1
          have KD := Aside0.mk (done_any ge Be (layAll []) false wr i1)
          rw [if_neg (by rintro (h | h); cases h; simp [layAll] at h)] at KD
          have HB := Aside0.mk (HB2.out.trans (i5.mono HW.out))
          have e1 : decide (k < k) = false := decide_eq_false (by omega)
          clear i1 i2 i3 i4 i5 i6 H hlen hk hlt
          go_wp2_with fail
          refine KD.out.mono ?_
          rintro e w8 ⟨rfl, rfl⟩
          clear KD
          go_wp2_with fail
          go_ret
          exact ⟨rfl, HB.out⟩
end Go.Proofs.Ythllblcbmpehlaa
