/- The walk of InkNil. -/
import Derived.Test.YthllblcbmpehlaaNw
namespace Go.Proofs.Ythllblcbmpehlaa
open Go.RowKit Go.Proofs.YthllblcbmpehlaaW.PrintWords Go.Proofs.YthllblcbmpehlaaW.PrintLast Go.Proofs.YthllblcbmpehlaaW.PrintMore
set_option linter.unusedVariables false
set_option linter.unusedSimpArgs false

theorem World.heap_size_setCell (w : World) (a : Addr) (v : Value) : (w.setCell a v).heap.size = w.heap.size := by simp
/-- A row of one's own, whose numbers may be others; the rest as it was. -/
def Turned (w0 wr : World) (base : Nat) (v : Value) (n : Nat) (xs : List Int) : Prop :=
  xs.length = n ∧ (Kd.int .u8).R 5 wr base (fun _ => True) v xs ∧ w0.heap.size ≤ wr.heap.size ∧ (∀ k, k < w0.heap.size → v.ownBlock ≠ some k → wr.heap[k]? = w0.heap[k]?) ∧ Below base w0 wr
theorem Pn.step {w w' : World} {base g : Nat} {p : List Int} {v : Value} (h : Pn w base g p v) (hs : ∀ k, k < w.heap.size → k = g ∨ v.ownBlock = some k → w'.heap[k]? = w.heap[k]?) : Pn w' base g p v := by
  refine ⟨(hs g h.lt (.inl rfl)).trans h.1, ?_⟩
  have flat : ∀ {ok1 ok2 : Nat → Prop} {x : Int} {cs : List Value}, (Kd.int .u8).M w base ok1 x cs → (Kd.int .u8).M w base ok2 x cs := fun h => h
  have a := Kd.R_flat (ok' := fun b => b ≠ g ∧ v.ownBlock = some b) flat h.2 (fun b hb hk => ⟨hk, hb⟩)
  exact Kd.R_mono (Kd.R_step a (fun b hb hlt => hs b hlt (.inr hb.2))) (fun b hb => hb.1)
set_option maxHeartbeats 1000000 in
theorem read_low (A : Option Addr) (n c : Nat) (q : List Int) (w : World) (hq : (Kd.int .u8).C w A n q) (hn : n ≤ 100000000) :
    Calls Try.prog 15 #[.slice A n c] w fun e w' => ∃ g, e = .returned (.pointer (some ⟨g, 0, none⟩)) ∧ w.heap.size ≤ g ∧ g < w'.heap.size ∧ (∀ u : World, (∀ k, w.heap.size ≤ k → k < w'.heap.size → u.heap[k]? = w'.heap[k]?) → Ey u g w'.heap.size q false) ∧ Below w.heap.size w w' := by
  have KEY := Aside0.mk (clone_any A n c q w hq hn)
  clear hq hn
  go_enter Try.func15, Try.ntmps15
  go_wp2_with fail
  refine KEY.out.mono ?_
  rintro e w1 ⟨vo, rfl, h1, h2⟩
  obtain ⟨Q, d, hv⟩ := Kd.R_slice h1
  subst hv
  obtain ⟨r1, r2, r3⟩ := Rn_C h1
  have HLT := Aside0.mk (Kd.R_lt h1)
  have HBA := Aside0.mk (Kd.R_base h1)
  have HC := Aside0.mk r3
  have HD := Aside0.mk r2
  have H2 := Aside0.mk h2
  generalize q.length = m at *
  clear h1 h2 KEY r1 r2 r3
  go_wp2_with fail
  go_ret
  have hb := below_step H2.out (below_alloc (Below.refl _ _) (.cells #[.slice Q m d, .bool false] 67))
  refine ⟨w1.heap.size, rfl, H2.out.size, by simp, fun u hu => ⟨Q, m, d, ?_, ?_, HD.out, fun ad e => ?_, by simp⟩, hb⟩
  · rw [hu _ H2.out.size (by simp)]; exact blk_new _ _
  · refine eye_block (w1.alloc (.cells #[.slice Q m d, .bool false] 67)) u (Kd.C_alloc HC.out _) (fun ad e => hu _ (HBA.out ad.block (by rw [e]; rfl)) ?_)
    have := HLT.out ad.block (by rw [e]; rfl)
    simp
    omega
  · have := HLT.out ad.block (by rw [e]; rfl)
    simp
    omega

set_option maxRecDepth 100000 in
set_option maxHeartbeats 8000000 in
theorem nil_walk (n0 : Int) (A : Option Addr) (len c : Nat) (p0 : List Int) (w : World) (hn0 : 0 ≤ n0 ∧ n0 < 18446744073709551616) (hr : (Kd.int .u8).C w A len p0) (hc : len ≤ c) (hby : ∀ x ∈ p0, 0 ≤ x ∧ x < 256) :
    Calls Try.prog 8 #[.int .u64 n0, .slice A len c] w fun e w' => e = .returned (.bool true) ∧ Below w.heap.size w w' := by
  obtain ⟨n, rfl⟩ := Int.eq_ofNat_of_zero_le hn0.1
  have HN := Aside0.mk (show n < 18446744073709551616 by omega)
  have HR := Aside0.mk hr
  have HC := Aside0.mk hc
  have HBY := Aside0.mk hby
  clear hr hc hby hn0
  go_enter Try.func8, Try.ntmps8
  go_wp2_with fail
  refine (awake_any _).mono ?_
  rintro e w1 ⟨rfl, hb1⟩
  have HB1 := Aside0.mk hb1
  have HR1 := Aside0.mk (Kd.C_below HR.out hb1)
  clear hb1 HR
  go_wp2_with fail
  refine (cut_any _ _ _ p0 20 _ HR1.out HC.out (by omega)).mono ?_
  rintro e w2 ⟨v2, rfl, hv2, hb2⟩
  obtain ⟨p, hp⟩ : ∃ p, p0.take (20 : Int).toNat = p := ⟨_, rfl⟩
  have HPB : Aside0 (Bytes p) := ⟨by rw [← hp]; exact Bytes.take HBY.out _⟩
  have HPL : Aside0 (p.length ≤ 20) := ⟨by rw [← hp, List.length_take]; exact Nat.min_le_left _ _⟩
  rw [hp] at hv2
  obtain ⟨P, dp, hv⟩ := Kd.R_slice hv2
  obtain ⟨lp, hlp⟩ : ∃ lp, p.length = lp := ⟨_, rfl⟩
  rw [hlp] at hv
  subst hv
  have HLP := Aside0.mk hlp
  have HB2 := Aside0.mk (below_step HB1.out hb2)
  have HP2 := Aside0.mk hv2
  generalize w1.heap.size = bP at *
  clear hv2 hb2 hp hlp HR1 HB1 HC HBY
  go_wp2_with fail
  refine (pbyte_nil _ _).mono ?_
  rintro e w3 ⟨rfl, hb⟩
  have HB3 := Aside0.mk (below_step HB2.out hb)
  have HP3 := Aside0.mk (Kd.R_below HP2.out hb)
  clear hb HB2 HP2
  go_wp2_with fail
  refine (phalf_nil _ (by decide) _).mono ?_
  rintro e w4 ⟨rfl, hb⟩
  have HB4 := Aside0.mk (below_step HB3.out hb)
  have HP4 := Aside0.mk (Kd.R_below HP3.out hb)
  clear hb HB3 HP3
  go_wp2_with fail
  refine (pword_nil 3 (by decide) _).mono ?_
  rintro e w5 ⟨rfl, hb⟩
  have HB5 := Aside0.mk (below_step HB4.out hb)
  have HP5 := Aside0.mk (Kd.R_below HP4.out hb)
  clear hb HB4 HP4
  go_wp2_with fail
  refine (pnum_nil n HN.out _).mono ?_
  rintro e w6 ⟨rfl, hb⟩
  have HB6 := Aside0.mk (below_step HB5.out hb)
  have HP6 := Aside0.mk (Kd.R_below HP5.out hb)
  clear hb HB5 HP5
  go_wp2_with fail
  refine (pblob_nil _ _ _ (by have := HPL.out; have := HLP.out; omega) _).mono ?_
  rintro e w7 ⟨rfl, hb⟩
  have HB7 := Aside0.mk (below_step HB6.out hb)
  have HP7 := Aside0.mk (Kd.R_below HP6.out hb)
  clear hb HB6 HP6
  go_wp2_with fail
  refine (pbytes_nil _).mono ?_
  rintro e w8 ⟨rfl, rfl⟩
  go_wp2_with fail
  refine (ebyte_nil _).mono ?_
  rintro e w8 ⟨rfl, rfl⟩
  go_wp2_with fail
  refine (ehalf_nil _).mono ?_
  rintro e w8 ⟨rfl, rfl⟩
  go_wp2_with fail
  refine (eword_nil _).mono ?_
  rintro e w8 ⟨rfl, rfl⟩
  go_wp2_with fail
  refine (enum_nil _ _).mono ?_
  rintro e w8 ⟨rfl, rfl⟩
  go_wp2_with fail
  refine (eblob_nil _).mono ?_
  rintro e w8 ⟨rfl, rfl⟩
  go_wp2_with fail
  refine (left_nil _).mono ?_
  rintro e w8 ⟨rfl, rfl⟩
  go_wp2_with fail
  refine (done_nil _).mono ?_
  rintro e w8 ⟨rfl, rfl⟩
  -- the pen
  obtain ⟨b, hb⟩ : ∃ b, w8.heap.size = b := ⟨_, rfl⟩
  have q1 : (w8.alloc (.cells #[.slice none 0 0] 27)).heap[b]? = some (.cells #[.slice none 0 0] 27 (0, 0)) := by rw [← hb]; exact blk_new _ _
  have hal := below_alloc (Below.refl w8.heap.size w8) (.cells #[.slice none 0 0] 27)
  have HPn := Aside0.mk (pen_new (b := b) q1)
  have HB9 := Aside0.mk (below_step HB7.out hal)
  have HP9 := Aside0.mk (Kd.R_below (Kd.R_mono (Kd.R_bound HP7.out) (ok' := fun k => k < b) (fun k hk => by rw [← hb]; exact hk.2.2.1)) hal)
  have HWB := Aside0.mk (show w.heap.size ≤ b by rw [← hb]; exact HB7.out.size)
  clear q1 hal HB7 HP7
  go_wp2_with fail
  (try rw [hb])
  generalize w8.alloc (.cells #[.slice none 0 0] 27) = w9 at *
  clear hb
  have KB := Aside0.mk (pblob_any b b [] p (.slice none 0 0) P lp dp w9 HPn.out (Nat.le_refl _) (by have := HPL.out; have := HLP.out; simp; omega) (fun w' _ h => (Rn_C (Kd.R_step HP9.out (fun k hk _ => h.block k hk))).2.2))
  obtain ⟨q, hq⟩ : ∃ q, [] ++ (numN lp ++ p) = q := ⟨_, rfl⟩
  have HQ : Aside0 (q = numN lp ++ p) := ⟨by rw [← hq]; rfl⟩
  rw [hq] at KB
  have HQL : Aside0 (0 < q.length ∧ q.length ≤ 30 ∧ Bytes q) := ⟨by
    have h10 := numN_ten (x := lp) (by have := HPL.out; have := HLP.out; omega)
    have := HPL.out
    have h1 : 0 < (numN lp).length := by
      by_cases h : lp < 128
      · rw [numN_lo h]; simp
      · rw [numN_hi h]; simp
    rw [HQ.out, List.length_append]
    exact ⟨by omega, by omega, Bytes.append (numN_bytes _) HPB.out⟩⟩
  clear hq
  refine KB.out.mono ?_
  rintro e u1 ⟨v1, rfl, h⟩
  have HPn1 := Aside0.mk h.1
  have HU1 := Aside0.mk h.2.2.2
  clear h KB HPn
  go_wp2_with fail
  refine (pbytes_any b b q v1 u1 HPn1.out (by have := HQL.out; omega)).mono ?_
  rintro e u2 ⟨vx, rfl, ho, hb2⟩
  obtain ⟨X, dx, hv⟩ := Kd.R_slice ho
  obtain ⟨nx, hnx⟩ : ∃ nx, q.length = nx := ⟨_, rfl⟩
  rw [hnx] at hv
  subst hv
  obtain ⟨r1, r2, r3⟩ := Rn_C ho
  have C2 := Aside0.mk r3
  have HX2 := Aside0.mk ho
  have HBXX : u1.heap.size ≤ u2.heap.size := hb2.size
  have HPn2 := Aside0.mk (HPn1.out.below hb2)
  have HU2 := Aside0.mk (HU1.out.trans (hb2.mono (Nat.le_of_lt HPn1.out.lt)))
  have HS1 := Aside0.mk (⟨HPn1.out.lt, HPn1.out.own⟩ : b < u1.heap.size ∧ ∀ k, v1.ownBlock = some k → k < u1.heap.size)
  have HNBx := Aside0.mk (show nx ≤ 30 by have := HQL.out; omega)
  have HNX := Aside0.mk hnx
  clear ho hb2 r1 r2 r3 HU1 HPn1 hnx
  go_wp2_with fail
  refine (read_low _ _ _ q _ C2.out (by have := HNBx.out; omega)).mono ?_
  rintro e u3 ⟨gy, rfl, hgy, hgy2, hE, hb3⟩
  have HE3 := Aside0.mk hE
  have HX3 := Aside0.mk (Kd.R_below HX2.out hb3)
  have HXB := Aside0.mk (show ∀ k, (Value.slice X nx dx).ownBlock = some k → u1.heap.size ≤ k ∧ k < u2.heap.size from fun k hk => ⟨Kd.R_base HX2.out k hk, Kd.R_lt HX2.out k hk⟩)
  have HPn3 := Aside0.mk (HPn2.out.below hb3)
  have HU3 := Aside0.mk (HU2.out.trans (hb3.mono (Nat.le_of_lt HPn2.out.lt)))
  have HSU := Aside0.mk (⟨hgy, hgy2, hb3.size⟩ : u2.heap.size ≤ gy ∧ gy < u3.heap.size ∧ u2.heap.size ≤ u3.heap.size)
  obtain ⟨basex, hbx⟩ : ∃ bx, u1.heap.size = bx := ⟨_, rfl⟩
  rw [hbx] at HX3 HXB HS1
  have HBX := Aside0.mk (show basex ≤ u2.heap.size by rw [← hbx]; exact HBXX)
  have HT0 : Aside0 (Turned u3 u3 basex (.slice X nx dx) nx q) := ⟨⟨HNX.out, HX3.out, Nat.le_refl _, fun _ _ _ => rfl, Below.refl _ _⟩⟩
  clear HBXX hE hgy hgy2 hb3 HX2 HPn2 HU2 C2 HX3 hbx
  go_wp2_with fail
  go_loopw [76] (fun v9 wr => ∃ (i : Nat) (xs : List Int), i ≤ nx ∧ v9 = .int .i64 i ∧ Aside0 (Turned u3 wr basex (.slice X nx dx) nx xs)) (fun v9 _ => nx - (intOf v9).toNat)
  case atStart => exact ⟨0, _, by omega, rfl, HT0⟩
  case round =>
    clear HT0
    obtain ⟨i, xs, hi, rfl, H⟩ := hrel
    by_cases hlt : i < nx
    · obtain ⟨h1, h2, h3, h4, h5⟩ := H.out
      obtain ⟨gz, cap, hv, hbz, hgz, _⟩ := Kd.R_form h2 (by omega)
      injection hv with e1 e2 e3
      obtain ⟨c0, f0⟩ := Kd.R_celln (enc := Value.int .u8) (h1 := fun _ => rfl) (0 : Int) (by rw [e1] at h2; exact h2) (i : Int) (by omega) (by omega)
      rw [Int.toNat_natCast] at c0 f0
      generalize rdOf (0 : Int) xs (i : Int) = y at *
      have HX := Aside0.mk (fun u : Int => (⟨by rw [List.length_set]; exact h1, by have := Kd.R_putn (enc := Value.int .u8) (h1 := fun _ => rfl) (by rw [e1] at h2; exact h2) (i : Int) u; rw [Int.toNat_natCast] at this; rw [e1]; exact this, by rw [World.heap_size_setCell]; exact h3, fun k hk hne => (Below.heap_setCell wr ⟨gz, i, none⟩ (.int .u8 u) k (fun e => hne (by rw [e1, e]; rfl))).trans (h4 k hk hne), h5.setCell hbz _⟩ : Turned u3 (wr.setCell ⟨gz, i, none⟩ (.int .u8 u)) basex (.slice X nx dx) nx (xs.set i u)))
      subst e1
      have HMX := Aside0.mk HNBx.out
      have hmx := HMX.out
      have d1 : decide (i < nx) = true := decide_eq_true hlt
      have d1i : (i : Int) < nx := by omega
      clear h1 h2 h3 h4 h5 e2 e3 hbz hgz H
      go_wp2_with fail
      go_roundw
      case rel => exact ⟨i + 1, _, by omega, by go_num, ⟨HX.out _⟩⟩
      case measure => simp [intOf]; omega
    · have H1 := H
      have hn : i = nx := by omega
      have d1 : decide (i < nx) = false := decide_eq_false hlt
      clear H hi hlt
      obtain ⟨h1, h2, h3, h4, h5⟩ := H1.out
      have hEy : Ey wr gy u3.heap.size q false := HE3.out wr (fun k hk1 hk2 => h4 k hk2 (fun e => by have := HXB.out k e; omega))
      have hPn : Pn wr b b q v1 := HPn3.out.step (fun k hk h => h4 k hk (fun e => by
        have h1 := HXB.out k e
        rcases h with h | h
        · have := HS1.out.1; omega
        · have := HS1.out.2 k h; omega))
      have hU : Below b w9 wr := HU3.out.trans (h5.mono (Nat.le_of_lt HS1.out.1))
      have hn64 : lp < 18446744073709551616 := by have := HPL.out; have := HLP.out; omega
      have hblob : eBlob 20 q false = (p, [], false) := by
        have h1 := numR_num lp 0 0 p (by omega) (fun h => absurd h (by decide))
        have h20 : ¬ 20 < lp := by have := HPL.out; have := HLP.out; omega
        rw [HQ.out, eBlob_ok (l := numN lp ++ p) (l' := p) (n := lp) 20 (by rw [h1]; simp) h20 (by rw [HLP.out]; exact Nat.lt_irrefl _), ← HLP.out, List.take_length, List.drop_length]
      have KZ := Aside0.mk (eblob_any gy u3.heap.size q false 20 wr hEy HQL.out.2.2 (by have := HQL.out; omega) (by decide))
      rw [hblob] at KZ
      have HPw := Aside0.mk hPn
      have HUw := Aside0.mk hU
      have HSW := Aside0.mk h3
      clear h1 h2 h3 h4 h5 hEy hPn hU hblob hn64 H1 HE3 HPn3 HU3
      go_wp2_with fail
      refine KZ.out.mono ?_
      rintro e u5 ⟨u4, vz, rfl, hE4, hvz, hb5⟩
      (try simp only at hE4 hvz)
      obtain ⟨Z, dz, hv⟩ := Kd.R_slice hvz
      rw [HLP.out] at hv
      subst hv
      have hPn4 : Pn u5 b b q v1 := Pn.below (HPw.out.step (fun k hk h => hE4.2.1.2 k hk (by
        rcases h with h | h
        · have := HS1.out.1; have := HSU.out; have := HBX.out; omega
        · have h1 := HS1.out.2 k h; have := HXB.out; have := HSU.out; have := HBX.out; omega) (by simp))) hb5
      have hU5 : Below b w9 u5 := (HUw.out.trans (hE4.2.2.mono (by have := HS1.out.1; have := HBX.out; have := HSU.out; omega))).trans (hb5.mono (by have := hE4.2.1.1; have := HPw.out.lt; omega))
      have HZB := Aside0.mk (show ∀ k, (Value.slice Z lp dz).ownBlock = some k → u4.heap.size ≤ k from fun k hk => Kd.R_base hvz k hk)
      have HSZ := Aside0.mk (⟨hE4.2.1.1, by have := hE4.2.1.1; have := HPw.out.lt; omega, hb5.size⟩ : wr.heap.size ≤ u4.heap.size ∧ b < u4.heap.size ∧ u4.heap.size ≤ u5.heap.size)
      have HOW := Aside0.mk (show ∀ k, v1.ownBlock = some k → k < u4.heap.size from fun k hk => Nat.lt_of_lt_of_le (HPw.out.own k hk) hE4.2.1.1)
      have HPn5 := Aside0.mk hPn4
      have HU5 := Aside0.mk hU5
      obtain ⟨basez, hbz⟩ : ∃ bz, u4.heap.size = bz := ⟨_, rfl⟩
      rw [hbz] at hvz HZB HSZ HOW
      have HT1 : Aside0 (Turned u5 u5 basez (.slice Z lp dz) lp p) := ⟨⟨HLP.out, hvz, Nat.le_refl _, fun _ _ _ => rfl, Below.refl _ _⟩⟩
      have HNBz := Aside0.mk (show lp ≤ 20 by have := HPL.out; have := HLP.out; omega)
      clear hE4 hvz hb5 hPn4 hU5 KZ HPw HUw hbz d1 hn
      generalize wr = wq at *
      go_wp2_with fail
      go_loopw [90] (fun v9 wr => ∃ (i : Nat) (xs : List Int), i ≤ lp ∧ v9 = .int .i64 i ∧ Aside0 (Turned u5 wr basez (.slice Z lp dz) lp xs)) (fun v9 _ => lp - (intOf v9).toNat)
      case atStart => exact ⟨0, _, by omega, rfl, HT1⟩
      case round =>
        clear HT1
        obtain ⟨i, xs, hi, rfl, H⟩ := hrel
        by_cases hlt : i < lp
        · obtain ⟨h1, h2, h3, h4, h5⟩ := H.out
          obtain ⟨gz, cap, hv, hbz, hgz, _⟩ := Kd.R_form h2 (by omega)
          injection hv with e1 e2 e3
          obtain ⟨c0, f0⟩ := Kd.R_celln (enc := Value.int .u8) (h1 := fun _ => rfl) (0 : Int) (by rw [e1] at h2; exact h2) (i : Int) (by omega) (by omega)
          rw [Int.toNat_natCast] at c0 f0
          generalize rdOf (0 : Int) xs (i : Int) = y at *
          have HX := Aside0.mk (fun u : Int => (⟨by rw [List.length_set]; exact h1, by have := Kd.R_putn (enc := Value.int .u8) (h1 := fun _ => rfl) (by rw [e1] at h2; exact h2) (i : Int) u; rw [Int.toNat_natCast] at this; rw [e1]; exact this, by rw [World.heap_size_setCell]; exact h3, fun k hk hne => (Below.heap_setCell wr ⟨gz, i, none⟩ (.int .u8 u) k (fun e => hne (by rw [e1, e]; rfl))).trans (h4 k hk hne), h5.setCell hbz _⟩ : Turned u5 (wr.setCell ⟨gz, i, none⟩ (.int .u8 u)) basez (.slice Z lp dz) lp (xs.set i u)))
          subst e1
          have HMX := Aside0.mk HNBz.out
          have hmx := HMX.out
          have d1 : decide (i < lp) = true := decide_eq_true hlt
          have d1i : (i : Int) < lp := by omega
          clear h1 h2 h3 h4 h5 e2 e3 hbz hgz H
          go_wp2_with fail
          go_roundw
          case rel => exact ⟨i + 1, _, by omega, by go_num, ⟨HX.out _⟩⟩
          case measure => simp [intOf]; omega
        · have H1 := H
          have hn : i = lp := by omega
          have d1 : decide (i < lp) = false := decide_eq_false hlt
          clear H hi hlt
          obtain ⟨h1, h2, h3, h4, h5⟩ := H1.out
          have hPn : Pn wr b b q v1 := HPn5.out.step (fun k hk h => h4 k hk (fun e => by
            have h1 := HZB.out k e
            rcases h with h | h
            · have := HSZ.out.2.1; omega
            · have := HOW.out k h; omega))
          have hU : Below b w9 wr := HU5.out.trans (h5.mono (Nat.le_of_lt HSZ.out.2.1))
          have KP := Aside0.mk (pbytes_any b b q v1 wr hPn (by have := HQL.out; omega))
          have hR9 := Kd.R_step HP9.out (fun k hk _ => hU.block k hk)
          have HR9 := Aside0.mk hR9
          have HPn6 := Aside0.mk hPn
          have HU6 := Aside0.mk hU
          clear h1 h2 h3 h4 h5 hPn hU hR9 H1 HPn5 HU5
          go_wp2_with fail
          refine KP.out.mono ?_
          rintro e u7 ⟨vo, rfl, ho, hb7⟩
          obtain ⟨Y, dy, hv⟩ := Kd.R_slice ho
          rw [HNX.out] at hv
          subst hv
          obtain ⟨r1, r2, r3⟩ := Rn_C ho
          have C7 := Aside0.mk r3
          have D7 := Aside0.mk r2
          have HR7 := Aside0.mk (Rn_C (Kd.R_below HR9.out hb7))
          have HU7 := Aside0.mk (HU6.out.trans (hb7.mono (Nat.le_of_lt HPn6.out.lt)))
          have HS7 := Aside0.mk (Nat.lt_of_lt_of_le HPn6.out.lt hb7.size)
          have KL := Aside0.mk (rlay_any ⟨4, 0, p, 0⟩ P dp u7 ⟨by simp only; omega, by simp only; omega, HPB.out, by simp only; omega⟩ (by have := (Rn_C (Kd.R_below HR9.out hb7)).2.2; rw [HLP.out]; exact this) (by have := HR7.out.2.1; rw [HLP.out]; exact this) (by have := HPL.out; simp only; omega))
          have HLN : Aside0 (layN ⟨4, 0, p, 0⟩ = q) := ⟨by rw [HQ.out, ← HLP.out]; rfl⟩
          rw [HLN.out] at KL
          simp only [HLP.out] at KL
          clear ho hb7 r1 r2 r3 KP HR9 HPn6 HU6 HLN
          go_wp2_with fail
          refine KL.out.mono ?_
          rintro e u8 ⟨v8, rfl, ho, hb8⟩
          obtain ⟨Y2, dy2, hv⟩ := Kd.R_slice ho
          rw [HNX.out] at hv
          subst hv
          obtain ⟨r1, r2, r3⟩ := Rn_C ho
          have C8 := Aside0.mk r3
          have D8 := Aside0.mk r2
          have C9 := Aside0.mk (Kd.C_below C7.out hb8)
          have HU8 := Aside0.mk (HB9.out.trans ((HU7.out.trans (hb8.mono (Nat.le_of_lt HS7.out))).mono HWB.out))
          clear ho hb8 r1 r2 r3 KL C7 HU7
          go_wp2_with fail
          refine (same_is true _ _ _ _ _ _ _ _ _ C9.out D7.out C8.out D8.out (by simp)).mono ?_
          rintro e u9 ⟨rfl, nd, rfl⟩
          have HU9 := Aside0.mk (pw_below_drewN HU8.out nd)
          clear C8 C9 HU8
          go_wp2_with fail
          go_ret
          exact ⟨rfl, HU9.out⟩
end Go.Proofs.Ythllblcbmpehlaa
