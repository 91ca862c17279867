/- The contracts of TrailingZeros32, Has and Note. -/
import Derived.Test.YtbfcllpjenohlaaDoorDa
import Derived.RegionTactic
import Derived.BigRegion
namespace Go.Proofs.YtbfcllpjenohlaaDoor
open Go.RowKit Go.Proofs.YtbfcllpjenohlaaDoorW.PrintWords Go.Proofs.YtbfcllpjenohlaaDoorW.PrintLast Go.Proofs.YtbfcllpjenohlaaDoorW.PrintMore
set_option linter.unusedVariables false
set_option linter.unusedSimpArgs false

theorem u32_bit (b i : Nat) (hb : b < 4294967296) (hi : i < 32) : (bits .and .u32 (shr .u32 (b : Int) (i : Int)) 1 == 1) = b.testBit i := by
  have e1 : shr .u32 (b : Int) (i : Int) = ((b / 2 ^ i : Nat) : Int) := by
    unfold shr
    have : min ((i : Int).toNat) IntKind.u32.bits = i := by simp [IntKind.bits]; omega
    rw [this]; simp
  have hq : b / 2 ^ i < 4294967296 := Nat.lt_of_le_of_lt (Nat.div_le_self _ _) hb
  rw [e1, show (1 : Int) = ((1 : Nat) : Int) from rfl, u32_and_nat _ 1 hq (by omega), Nat.and_one_is_mod, Nat.testBit_eq_decide_div_mod_eq]
  by_cases h : b / 2 ^ i % 2 = 1
  · simp [h]
  · have : b / 2 ^ i % 2 = 0 := by omega
    simp [this]

set_option maxHeartbeats 1000000 in
theorem has_any (x s : Int) (b : Nat) (hb : b < 4294967296) (w : World) :
    Calls Tryd.prog 14 #[.agg #[.int .u16 x, .int .u32 b], .int .u16 s] w fun e w' => e = .returned (.bool (hasN x b s)) ∧ Below w.heap.size w w' := by
  have hd : wrap64 (IntKind.i16.wrap (IntKind.u16.wrap (s - x))) = dist x s := by
    rw [i16_w, IntKind.wrap_u16]; unfold wrap64 dist
    omega
  refine POrderGoes.order_Acks_Has.calls x b s _ w ?_
  unfold POrderGoes.order_Acks_Has.f POrderGoes.order_Seq_To.f
  simp only [Option.bind_some, hd]
  have h1 := dist_lo x s
  have h2 := dist_hi x s
  unfold hasN
  generalize dist x s = d at *
  by_cases c : d < 0
  · simp [c]
  by_cases c2 : 0 < d
  · by_cases c3 : d ≤ 32
    · obtain ⟨i, hi⟩ := Int.eq_ofNat_of_zero_le (show 0 ≤ d - 1 by omega)
      have ew : wrap64 (d - 1) = (i : Int) := by unfold wrap64; omega
      have hbit := u32_bit b i hb (by omega)
      have ei : (d - 1).toNat = i := by omega
      simp only [c, c2, c3, ew, if_true, if_false, if_pos (show (0 : Int) ≤ (i : Int) by omega), hbit, ei, decide_true, decide_false, Bool.true_and, Bool.false_or, gt_iff_lt]
    · simp [c, c2, c3]
  · simp [c, c2]

theorem tz32_key (x a : Nat) (hx : x < 4294967296) (hx0 : x ≠ 0) (hlow : x &&& (4294967296 - x) = a) :
    bits BinOp.and IntKind.u32 (x : Int) (-(x : Int) % 4294967296) * 125613361 % 4294967296 / 134217728 = ((a * 125613361 % 4294967296 / 134217728 : Nat) : Int) := by
  have e1 : -(x : Int) % 4294967296 = ((4294967296 - x : Nat) : Int) := by omega
  rw [e1, u32_and_nat x _ hx (by omega), hlow]
  omega

set_option maxHeartbeats 1000000 in
theorem tz32_core (x k idx : Nat) (w : World) (hx0 : ((x : Int) == 0) = false)
    (key : bits BinOp.and IntKind.u32 (x : Int) (-(x : Int) % 4294967296) * 125613361 % 4294967296 / 134217728 = (idx : Int))
    (hi : idx < 32) (hk : k < 32) (hcell : w.cell? ⟨0, idx, none⟩ = some (.int .u8 k)) :
    Calls Tryd.prog 20 #[.int .u32 x] w fun e w' => e = .returned (.int .i64 k) ∧ Below w.heap.size w w' := by
  go_enter Tryd.func20, Tryd.ntmps20
  go_wp2_with (simp only [key])
  go_ret
  exact ⟨rfl, by repeat (first | exact Below.refl _ _ | apply pw_below_drewN | apply below_drew1)⟩
set_option maxHeartbeats 1000000 in
theorem tz32_zero (w : World) :
    Calls Tryd.prog 20 #[.int .u32 0] w fun e w' => e = .returned (.int .i64 32) ∧ Below w.heap.size w w' := by
  go_enter Tryd.func20, Tryd.ntmps20
  go_wp2
  go_ret
  exact ⟨rfl, by repeat (first | exact Below.refl _ _ | apply pw_below_drewN | apply below_drew1)⟩
theorem tz32_any (x : Nat) (hx : x < 4294967296) (w : World) (hT : TabAt w) :
    Calls Tryd.prog 20 #[.int .u32 x] w fun e w' => e = .returned (.int .i64 (Lib.ctz 32 x)) ∧ Below w.heap.size w w' := by
  by_cases hx0 : x = 0
  · subst hx0
    exact tz32_zero w
  · obtain ⟨hlow, hk⟩ := Lib.lowest_bit 32 x hx0 hx
    obtain ⟨hi, htab⟩ := Lib.deBruijn32_at _ hk
    have hcell := hT _ hi
    rw [htab] at hcell
    exact tz32_core x _ _ w (by simp; omega) (tz32_key x _ hx hx0 hlow) hi hk hcell

theorem ctz_le (x : Nat) (hx : x < 4294967296) : Lib.ctz 32 x ≤ 32 := by
  by_cases h : x = 0
  · subst h; decide
  · exact Nat.le_of_lt (Lib.lowest_bit 32 x h hx).2

theorem u32_flip {s : Nat} (hs : s < 4294967296) : bits .xor .u32 IntKind.u32.max (s : Int) = ((4294967295 - s : Nat) : Int) := by
  show IntKind.u32.wrap ((BitVec.ofInt 32 (4294967295 : Int) ^^^ BitVec.ofInt 32 (s : Int)).toNat : Int) = _
  have e1 : BitVec.ofInt 32 (4294967295 : Int) = BitVec.allOnes 32 := by decide
  have e2 : BitVec.ofInt 32 (s : Int) = BitVec.ofNat 32 s := by simp
  rw [e1, e2, BitVec.allOnes_xor, BitVec.toNat_not, BitVec.toNat_ofNat, IntKind.wrap_u32']
  have : s % 2 ^ 32 = s := Nat.mod_eq_of_lt (by omega)
  rw [this]; omega
theorem u32_shl_one {k : Nat} (hk : k < 32) : shl .u32 1 (k : Int) = ((2 ^ k : Nat) : Int) := by
  have h : (2 : Nat) ^ k < 2 ^ 32 := Nat.pow_lt_pow_right (by omega) hk
  unfold shl
  have : min ((k : Int).toNat) IntKind.u32.bits = k := by simp [IntKind.bits]; omega
  rw [this, IntKind.wrap_u32', Int.one_mul]
  have e : ((2 : Int) ^ k) = ((2 ^ k : Nat) : Int) := by simp
  rw [e]
  generalize 2 ^ k = q at *
  omega
theorem u64_shr_nat {b k : Nat} (hk : k ≤ 64) : shr .u64 (b : Int) (k : Int) = ((b / 2 ^ k : Nat) : Int) := by
  unfold shr
  have : min ((k : Int).toNat) IntKind.u64.bits = k := by simp [IntKind.bits]; omega
  rw [this]; simp

def acks (p : Int × Nat) : Value := .agg #[.int .u16 p.1, .int .u32 p.2]


set_option maxRecDepth 100000 in
set_option maxHeartbeats 4000000 in
theorem note_any (x s : Int) (b : Nat) (hb : b < 4294967296) (w : World) (hT : TabAt w) :
    Calls Tryd.prog 13 #[.agg #[.int .u16 x, .int .u32 b], .int .u16 s] w fun e w' => e = .returned (.tuple #[acks (noteN x b s).1, .bool (noteN x b s).2]) ∧ Below w.heap.size w w' := by
  have h1 := dist_lo x s
  have h2 := dist_hi x s
  have hsz : (Tryd.prog.info? 35).map (·.size) = some 2 := by kernel_rfl
  have Hsz := Aside0.mk hsz
  clear hsz
  obtain ⟨W, hW⟩ : ∃ W, W = (w.alloc (Obj.cells #[Value.int IntKind.u16 x, Value.int IntKind.u32 b] 35)).alloc (Obj.cells #[Value.int IntKind.u16 0, Value.int IntKind.u32 0] 35) := ⟨_, rfl⟩
  have HB : Aside0 (Below w.heap.size w W) := ⟨by rw [hW]; exact below_alloc (below_alloc (Below.refl _ _) _) _⟩
  have HG : Aside0 (W.heap[w.heap.size]? = some (.cells #[.int .u16 x, .int .u32 b] 35 (0, 0))) := ⟨by rw [hW]; exact blk_alloc (blk_new _ _) _⟩
  have HR : Aside0 (W.heap[w.heap.size + 1]? = some (.cells #[.int .u16 0, .int .u32 0] 35 (0, 0))) := ⟨by rw [hW]; simpa using blk_new (w.alloc (Obj.cells #[Value.int IntKind.u16 x, Value.int IntKind.u32 b] 35)) _⟩
  have HT : Aside0 (TabAt W) := ⟨hT.below HB.out⟩
  by_cases c1 : 32 < dist x s
  · have hN : noteN x b s = ((x, b), false) := by unfold noteN; rw [if_pos (.inl c1)]
    have cb := decide_eq_true c1
    go_enter Tryd.func13, Tryd.ntmps13
    go_wp2_with fail
    rw [← hW]
    refine (to_any x s _).mono ?_
    rintro e w1 ⟨rfl, nd, rfl⟩
    have a0 := (blk_cell (blk_drewN HG.out nd) 0).trans rfl
    have a1 := (blk_cell (blk_drewN HG.out nd) 1).trans rfl
    have f0 := blk_frozen (blk_drewN HR.out nd) 0
    have f1 := blk_frozen (blk_drewN HR.out nd) 1
    have r0 := (blk_cell (blk_drewN HR.out nd) 0).trans rfl
    have r1 := (blk_cell (blk_drewN HR.out nd) 1).trans rfl
    clear hW
    go_wp2_with fail
    refine bodyPost_ret (results_ct rfl _ _ (w.heap.size + 1) _ _ (0, 0) _ rfl (blk_put (blk_put (blk_drewN HR.out nd) 0 _ rfl) 1 _ rfl) Tryd.underlying35 rfl Hsz.out) rfl ⟨?_, ?_⟩
    · rw [hN]; rfl
    · refine below_set (below_set (pw_below_drewN HB.out _) ?_) ?_ <;> omega
  obtain ⟨Q, hQ⟩ : ∃ Q, hasN x b s = Q := ⟨_, rfl⟩
  cases Q with
  | true =>
    have hN : noteN x b s = ((x, b), false) := by unfold noteN; rw [if_pos (.inr hQ)]
    have cb : decide (32 < dist x s) = false := decide_eq_false c1
    go_enter Tryd.func13, Tryd.ntmps13
    go_wp2_with fail
    rw [← hW]
    refine (to_any x s _).mono ?_
    rintro e w1 ⟨rfl, nd, rfl⟩
    have a0 := (blk_cell (blk_drewN HG.out nd) 0).trans rfl
    have a1 := (blk_cell (blk_drewN HG.out nd) 1).trans rfl
    clear hW
    go_wp2_with fail
    refine (has_any x s b hb _).mono ?_
    rintro e w2 ⟨rfl, hb2⟩
    rw [hQ]
    have HG2 := Aside0.mk (blk_below (blk_drewN HG.out nd) hb2)
    have HR2 := Aside0.mk (blk_below (blk_drewN HR.out nd) hb2)
    have HB2 := Aside0.mk (below_step (pw_below_drewN HB.out nd) hb2)
    clear a0 a1 hb2
    have a0 := (blk_cell HG2.out 0).trans rfl
    have a1 := (blk_cell HG2.out 1).trans rfl
    have f0 := blk_frozen HR2.out 0
    have f1 := blk_frozen HR2.out 1
    have r0 := (blk_cell HR2.out 0).trans rfl
    have r1 := (blk_cell HR2.out 1).trans rfl
    go_wp2_with fail
    refine bodyPost_ret (results_ct rfl _ _ (w.heap.size + 1) _ _ (0, 0) _ rfl (blk_put (blk_put HR2.out 0 _ rfl) 1 _ rfl) Tryd.underlying35 rfl Hsz.out) rfl ⟨?_, ?_⟩
    · rw [hN]; rfl
    · refine below_set (below_set HB2.out ?_) ?_ <;> omega
  | false =>
    have cb : decide (32 < dist x s) = false := decide_eq_false c1
    by_cases c3 : 0 < dist x s
    · have hN : noteN x b s = ((x, b ||| 2 ^ (dist x s - 1).toNat), true) := by
        unfold noteN; rw [if_neg (by rw [hQ]; simp; omega), if_pos c3]
      have cb3 : decide (0 < dist x s) = true := decide_eq_true c3
      obtain ⟨i, hi⟩ := Int.eq_ofNat_of_zero_le (show 0 ≤ dist x s - 1 by omega)
      have k1 : IntKind.i64.wrap (dist x s - 1) = (i : Int) := by rw [i64_w]; unfold wrap64; omega
      have k2 : shl .u32 1 (i : Int) = ((2 ^ i : Nat) : Int) := u32_shl_one (by omega)
      have hp : (2 : Nat) ^ i < 2 ^ 32 := Nat.pow_lt_pow_right (by omega) (by omega)
      have k3 : bits .or .u32 (b : Int) ((2 ^ i : Nat) : Int) = ((b ||| 2 ^ i : Nat) : Int) := u32_or_nat b _ hb (by omega)
      have k2' : (2 : Int) ^ i % 4294967296 = ((2 ^ i : Nat) : Int) := by
        have e : ((2 : Int) ^ i) = ((2 ^ i : Nat) : Int) := by simp
        rw [e]; generalize (2 : Nat) ^ i = q at *; omega
      rw [show (dist x s - 1).toNat = i by omega] at hN
      generalize (2 : Nat) ^ i = pw at *
      go_enter Tryd.func13, Tryd.ntmps13
      go_wp2_with fail
      rw [← hW]
      refine (to_any x s _).mono ?_
      rintro e w1 ⟨rfl, nd, rfl⟩
      have a0 := (blk_cell (blk_drewN HG.out nd) 0).trans rfl
      have a1 := (blk_cell (blk_drewN HG.out nd) 1).trans rfl
      clear hW
      go_wp2_with fail
      refine (has_any x s b hb _).mono ?_
      rintro e w2 ⟨rfl, hb2⟩
      rw [hQ]
      have HG2 := Aside0.mk (blk_below (blk_drewN HG.out nd) hb2)
      have HR2 := Aside0.mk (blk_below (blk_drewN HR.out nd) hb2)
      have HB2 := Aside0.mk (below_step (pw_below_drewN HB.out nd) hb2)
      clear a0 a1 hb2
      have a0 := (blk_cell HG2.out 0).trans rfl
      have a1 := (blk_cell HG2.out 1).trans rfl
      have f0 := blk_frozen HR2.out 0
      have f1 := blk_frozen HR2.out 1
      have r0 := (blk_cell HR2.out 0).trans rfl
      have r1 := (blk_cell HR2.out 1).trans rfl
      have g0 := blk_frozen HG2.out 0
      have g1 := blk_frozen HG2.out 1
      go_wp2_with fail
      go_region
      all_goals go_wp2_with fail
      refine bodyPost_ret (results_ct rfl _ _ (w.heap.size + 1) _ _ (0, 0) _ rfl (blk_drew (blk_put (blk_put (blk_far HR2.out (by simp) _) 0 _ rfl) 1 _ rfl)) Tryd.underlying35 rfl Hsz.out) rfl ⟨?_, ?_⟩
      · rw [hN]; rfl
      · refine below_drew1 (below_set (below_set (below_set HB2.out ?_) ?_) ?_) <;> omega
    · have hd0 : dist x s = 0 := by
        have : ¬ dist x s < 0 := fun h => by unfold hasN at hQ; simp [h] at hQ
        omega
      have cb3 : decide (0 < dist x s) = false := decide_eq_false c3
      have hN : noteN x b s = ((plus x (Lib.ctz 32 (4294967295 - b) + 1), b / 2 ^ (Lib.ctz 32 (4294967295 - b) + 1)), true) := by
        unfold noteN; rw [if_neg (by rw [hQ]; simp; omega), if_neg c3]
      have hr := ctz_le (4294967295 - b) (by omega)
      generalize hrun : Lib.ctz 32 (4294967295 - b) = run at *
      have HRun := Aside0.mk hrun
      clear hrun
      have k1 : IntKind.i64.wrap ((run : Int) + 1) = ((run + 1 : Nat) : Int) := by rw [i64_w]; unfold wrap64; omega
      have k2 : shr .u64 (b : Int) ((run + 1 : Nat) : Int) = ((b / 2 ^ (run + 1) : Nat) : Int) := u64_shr_nat (by omega)
      have hq : b / 2 ^ (run + 1) ≤ b := Nat.div_le_self _ _
      go_enter Tryd.func13, Tryd.ntmps13
      go_wp2_with fail
      rw [← hW]
      refine (to_any x s _).mono ?_
      rintro e w1 ⟨rfl, nd, rfl⟩
      have a0 := (blk_cell (blk_drewN HG.out nd) 0).trans rfl
      have a1 := (blk_cell (blk_drewN HG.out nd) 1).trans rfl
      clear hW
      go_wp2_with fail
      refine (has_any x s b hb _).mono ?_
      rintro e w2 ⟨rfl, hb2⟩
      rw [hQ]
      have HG2 := Aside0.mk (blk_below (blk_drewN HG.out nd) hb2)
      have HR2 := Aside0.mk (blk_below (blk_drewN HR.out nd) hb2)
      have HB2 := Aside0.mk (below_step (pw_below_drewN HB.out nd) hb2)
      have HT2 := Aside0.mk (TabAt.below (w := W.drewN nd) HT.out hb2)
      clear a0 a1 hb2
      have a0 := (blk_cell HG2.out 0).trans rfl
      have a1 := (blk_cell HG2.out 1).trans rfl
      go_wp2_with fail
      rw [u32_flip hb]
      refine (tz32_any _ (by omega) _ HT2.out).mono ?_
      rintro e w3 ⟨rfl, hb3⟩
      rw [HRun.out]
      have HG3 := Aside0.mk (blk_below HG2.out hb3)
      have HR3 := Aside0.mk (blk_below HR2.out hb3)
      have HB3 := Aside0.mk (below_step HB2.out hb3)
      clear a0 a1 hb3
      have a0 := (blk_cell HG3.out 0).trans rfl
      have a1 := (blk_cell HG3.out 1).trans rfl
      have g0 := blk_frozen HG3.out 0
      have g1 := blk_frozen HG3.out 1
      have f0 := blk_frozen HR3.out 0
      have f1 := blk_frozen HR3.out 1
      have r0 := (blk_cell HR3.out 0).trans rfl
      have r1 := (blk_cell HR3.out 1).trans rfl
      clear k1 k2
      go_wp2_with fail
      refine (add_any x _ _).mono ?_
      rintro e w4 ⟨rfl, nd4, rfl⟩
      go_wp2_with fail
      have kf : (b : Int) / 2 ^ (run + 1) % 4294967296 = ((b / 2 ^ (run + 1) : Nat) : Int) := by
        have e : (b : Int) / 2 ^ (run + 1) = ((b / 2 ^ (run + 1) : Nat) : Int) := by simp
        rw [e]; generalize b / 2 ^ (run + 1) = q at *; omega
      rw [kf]
      refine bodyPost_ret (results_ct rfl _ _ (w.heap.size + 1) _ _ (0, 0) _ rfl (blk_put (blk_put (blk_far (blk_far (blk_drewN HR3.out nd4) (by simp) _) (by simp) _) 0 _ rfl) 1 _ rfl) Tryd.underlying35 rfl Hsz.out) rfl ⟨?_, ?_⟩
      · rw [hN]; rfl
      · refine below_set (below_set (below_set (below_set (pw_below_drewN HB3.out _) ?_) ?_) ?_) ?_ <;> omega
end Go.Proofs.YtbfcllpjenohlaaDoor
