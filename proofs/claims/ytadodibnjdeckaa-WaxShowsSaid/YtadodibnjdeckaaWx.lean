/- Contracts of wax.Table's methods and of bytes.Clone. -/
import Derived.Test.YtadodibnjdeckaaA
import Derived.Test.YtadodibnjdeckaaChecked
import Derived.WalkSpells
import Derived.Deep.QuietTactic
import Derived.BigQuiet
import Derived.Deep.RegionWith
import Derived.Deep.RegionLaw
namespace Go.Proofs.Ytadodibnjdeckaa
open Go.RowKit Go.Proofs.YtadodibnjdeckaaW.PrintWords Go.Proofs.YtadodibnjdeckaaW.PrintLast Go.Proofs.YtadodibnjdeckaaW.PrintMore
set_option linter.unusedVariables false
set_option linter.unusedSimpArgs false

theorem wx_info5 : (Try.prog.info? 5).map (fun i => (i.zero, i.size, i.bytes)) = some (some (.int .u8 0), 1, 1) := by kernel_rfl

set_option maxHeartbeats 800000 in
/-- bytes.Clone. -/
theorem clone_any (A : Option Addr) (n c : Nat) (l : List Int) (w : World) (hr : (Kd.int .u8).C w A n l) (hl : n ≤ 140737488351232) :
    Calls Try.prog 22 #[.slice A n c] w fun e w' => ∃ v, e = .returned v ∧ (Kd.int .u8).R 5 w' w.heap.size (fun _ => True) v l ∧ Below w.heap.size w w' := by
  obtain rfl := hr.1
  have HR := Aside0.mk hr
  clear hr
  have q22 : ∀ (w : World) (a : Option Addr) (n c n' c' : Nat), (binOp .eql 22 (.slice a n c) (.slice none n' c')).run Try.prog w = .ok (.bool a.isNone) w := fun w a n c n' c' => Lib.run_eql_slice_nil w _ _ a n c n' c' Try.underlying22
  cases A with
  | none =>
    have h0 : l = [] := C_none HR.out
    subst h0
    go_enter Try.func22, Try.ntmps22
    go_wp2
    go_ret
    exact ⟨_, rfl, Kd.R_nil _ _ _ _ _, Below.refl _ _⟩
  | some ad =>
    go_enter Try.func22, Try.ntmps22
    go_wp2_with (at_builtin; go_loud (refine Kd.R_append_row (Value.int .u8) (0 : Int) (h1 := fun _ => rfl) (w0 := w) w.heap.size rfl (.tmp 5) (.tmp 6) 22 5 (.int .u8 0) 1 rfl Try.underlying22 wx_info5 rfl (by decide) (.slice (some ⟨w.heap.size, 0, none⟩) 0 0) [] l (some ad) l.length c (fun _ => True) rfl rfl (fun _ _ => trivial) ?aO ?aR ?aB ?aS ?aL ?_))
    case aO => exact R_made0 _ _ _ _ (Nat.le_refl _)
    case aR => exact Kd.C_alloc HR.out _
    case aB => exact below_alloc (Below.refl _ _) _
    case aS => simp
    case aL => simp; omega
    intro v1 w1 ho hb _ _
    have HO := Aside0.mk ho
    have HB := Aside0.mk hb
    clear ho hb
    go_wp2
    go_ret
    exact ⟨_, rfl, HO.out, HB.out⟩

/-! ### The sum, in plain numbers -/
def bitN (s : Nat) : Nat := s / 2 ^^^ s % 2 * 2197175160
def bits8 : Nat → Nat → Nat
  | 0, s => s
  | k + 1, s => bitN (bits8 k s)
def stepN (s b : Nat) : Nat := bits8 8 (s ^^^ b)
theorem bitN_lt {s : Nat} (h : s < 4294967296) : bitN s < 4294967296 := Nat.xor_lt_two_pow (n := 32) (by omega) (by omega)
theorem bits8_lt : ∀ (k : Nat) {s : Nat}, s < 4294967296 → bits8 k s < 4294967296
  | 0, _, h => h
  | k + 1, _, h => bitN_lt (bits8_lt k h)
def tstep (tb : Nat → Nat) (s : Nat) (b : Int) : Nat := s / 256 ^^^ tb (s % 256 ^^^ b.toNat)
def tsum (tb : Nat → Nat) (s : Nat) (l : List Int) : Nat := l.foldl (tstep tb) s
theorem tstep_lt {tb : Nat → Nat} (h : ∀ i, tb i < 4294967296) {s : Nat} (hs : s < 4294967296) (b : Int) : tstep tb s b < 4294967296 :=
  Nat.xor_lt_two_pow (n := 32) (by omega) (h _)
theorem tsum_lt {tb : Nat → Nat} (h : ∀ i, tb i < 4294967296) : ∀ (l : List Int) {s : Nat}, s < 4294967296 → tsum tb s l < 4294967296
  | [], _, hs => hs
  | b :: l, _, hs => tsum_lt h l (tstep_lt h hs b)
theorem tsum_append (tb : Nat → Nat) (s : Nat) (a b : List Int) : tsum tb s (a ++ b) = tsum tb (tsum tb s a) b := List.foldl_append
theorem tsum_snoc (tb : Nat → Nat) (s : Nat) (a : List Int) (b : Int) : tsum tb s (a ++ [b]) = tstep tb (tsum tb s a) b := tsum_append tb s a [b]
/-- A table's cells: tb's numbers. -/
structure IsTab (tb : Nat → Nat) (T : Array Value) : Prop where
  size : T.size = 256
  lt : ∀ i, tb i < 4294967296
  at_ : ∀ i, i < 256 → T[i]? = some (.int .u32 (tb i : Nat))
theorem IsTab.one {tb : Nat → Nat} {T : Array Value} (h : IsTab tb T) : T.all (fun x => x.oneCell') = true := by
  rw [Array.all_eq_true]
  intro i hi
  have := h.at_ i (by have := h.size; omega)
  rw [Array.getElem?_eq_getElem hi] at this
  rw [Option.some.inj this]; rfl
def sumN (tb : Nat → Nat) (l : List Int) : Nat := 4294967295 - tsum tb 4294967295 l

/-! ### Step -/
set_option maxHeartbeats 800000 in
theorem step_any (s b : Nat) (w : World) (hs : s < 4294967296) (hb : b < 256) :
    Calls Try.prog 11 #[.int .u32 s, .int .u8 b] w fun e w' => e = .returned (.int .u32 (stepN s b : Nat)) ∧ w' = w := by
  have hx : bits .xor .u32 (s : Int) (b : Int) = ((s ^^^ b : Nat) : Int) := u32_xor_nat s b hs (by omega)
  have hxl : s ^^^ b < 4294967296 := Nat.xor_lt_two_pow (n := 32) (by omega) (by omega)
  have HE : Hid (stepN s b = bits8 8 (s ^^^ b)) := rfl
  generalize s ^^^ b = x at *
  go_enter Try.func11, Try.ntmps11
  go_wp2
  go_loop [0, 10] (fun v0 v10 => ∃ k : Nat, k ≤ 8 ∧ v10 = .int .i64 k ∧ v0 = .int .u32 (bits8 k x : Nat)) (fun _ v10 => 8 - (intOf v10).toNat)
  case atStart => exact ⟨0, by omega, rfl, rfl⟩
  case round =>
    obtain ⟨k, hk, rfl, rfl⟩ := hrel
    have hyl : bits8 k x < 4294967296 := bits8_lt k hxl
    have HE2 : Hid (bitN (bits8 k x) = bits8 (k + 1) x) := rfl
    generalize hy : bits8 k x = y at *
    have HY := Lib.hid hy
    clear hy
    by_cases hlt : k < 8
    · have ha : bits .and .u32 (y : Int) 1 = (y : Int) % 2 := by
        have := u32_and_nat y 1 hyl (by omega)
        rw [Nat.and_one_is_mod] at this
        exact this
      have hm : bits .xor .u32 ((y : Int) / 2) ((y : Int) % 2 * 2197175160) = ((bitN y : Nat) : Int) := u32_xor_nat (y / 2) (y % 2 * 2197175160) (by omega) (by omega)
      go_wp2
      go_round
      case rel => exact ⟨k + 1, by omega, by go_num, by rw [← HE2.out]⟩
      case measure => simp [intOf]; omega
    · obtain rfl : k = 8 := by omega
      go_wp2
      go_ret
      exact ⟨ret_int (by rw [HE.out, HY.out]), rfl⟩

/-! ### Sum -/
set_option maxRecDepth 100000 in
set_option maxHeartbeats 1000000 in
theorem sum_any' (tb : Nat → Nat) (T : Array Value) (A : Option Addr) (n c : Nat) (l : List (List Int)) (w : World) (hT : IsTab tb T) (hr0 : (Kd.slice 5 (Kd.int .u8)).C w A n l)
    (hb : ∀ p ∈ l, Bytes p) :
    Calls Try.prog 13 #[.agg T, .slice A n c] w fun e w' => e = .returned (.int .u32 (sumN tb l.flatten : Nat)) ∧ Below w.heap.size w w' := by
  obtain rfl := hr0.1
  have HR0 := Aside0.mk hr0
  have HT := Aside0.mk hT
  have HBY := Aside0.mk hb
  clear hr0 hT hb
  have hl : l.length ≤ 9223372036854775807 := HR0.out.2.1
  have HF : Aside0 (tsum tb 4294967295 l.flatten < 4294967296 ∧ sumN tb l.flatten = 4294967295 - tsum tb 4294967295 l.flatten) := ⟨tsum_lt HT.out.lt _ (by omega), rfl⟩
  go_enter Try.func13, Try.ntmps13
  go_wp2
  go_loopw [5, 12] (fun v5 v12 wr => ∃ k : Nat, k ≤ l.length ∧ v12 = .int .i64 k ∧ v5 = .int .u32 (tsum tb 4294967295 (l.take k).flatten : Nat) ∧ Aside0 (Below (w.heap.size + 1) (w.alloc (Obj.cells T 28)) wr)) (fun _ v12 _ => l.length - (intOf v12).toNat)
  case atStart => exact ⟨0, by omega, rfl, rfl, ⟨Below.refl _ _⟩⟩
  case round =>
    obtain ⟨k, hk, rfl, rfl, HBT⟩ := hrel
    by_cases hlt : k < l.length
    · obtain ⟨ad, A0, c0, rfl, hcell, hl0, hC⟩ := row_at HR0.out k hlt
      have HW := Aside0.mk ((below_alloc (Below.refl w.heap.size w) _).trans (HBT.out.mono (by omega)))
      replace hcell := pw_cell_below HW.out hcell
      have HM := Aside0.mk (HBY.out l[k] (List.getElem_mem hlt))
      have HE : Hid ((l.take (k + 1)).flatten = (l.take k).flatten ++ l[k]) := by show _ = _; rw [take_snoc hlt, List.flatten_append]; simp
      generalize l[k] = p at *
      have HC := Aside0.mk hC
      clear hC
      have hpl : p.length ≤ 9223372036854775807 := HC.out.2.1
      have HS0 : Aside0 (tsum tb 4294967295 (l.take k).flatten < 4294967296) := ⟨tsum_lt HT.out.lt _ (by omega)⟩
      generalize hs0 : tsum tb 4294967295 (List.take k l).flatten = s0 at *
      have Hs0 := Lib.hid hs0
      clear hs0
      go_wp2
      go_loop [5, 18] (fun v5 v18 => ∃ j : Nat, j ≤ p.length ∧ v18 = .int .i64 j ∧ v5 = .int .u32 (tsum tb s0 (p.take j) : Nat)) (fun _ v18 => p.length - (intOf v18).toNat)
      case atStart => exact ⟨0, by omega, rfl, rfl⟩
      case round =>
        obtain ⟨j, hj, rfl, rfl⟩ := hrel
        by_cases hjl : j < p.length
        · obtain ⟨ad1, rfl, hc1⟩ := int_at HC.out j hjl
          replace hc1 := pw_cell_below HW.out hc1
          obtain ⟨bn, hbe, hbn⟩ := HM.out.nat hjl
          rw [hbe] at hc1
          have HE : Hid (tsum tb s0 (p.take (j + 1)) = tstep tb (tsum tb s0 (p.take j)) bn) := by rw [take_snoc hjl, tsum_snoc, hbe]; rfl
          clear hbe
          have hs1 : tsum tb s0 (p.take j) < 4294967296 := tsum_lt HT.out.lt _ HS0.out
          generalize tsum tb s0 (p.take j) = s1 at *
          have hx : bits .xor .u8 ((s1 : Int) % 256) (bn : Int) = ((s1 % 256 ^^^ bn : Nat) : Int) := u8_xor_nat (s1 % 256) bn (by omega) hbn
          have hxl : s1 % 256 ^^^ bn < 256 := Nat.xor_lt_two_pow (n := 8) (by omega) hbn
          have hTc : wr.cell? ⟨w.heap.size, s1 % 256 ^^^ bn, none⟩ = some (.int .u32 (tb (s1 % 256 ^^^ bn) : Nat)) := by
            rw [HBT.out.cell (by simp), World.cell?_alloc_at _ _ _ _ rfl]; exact HT.out.at_ _ hxl
          have htl := HT.out.lt (s1 % 256 ^^^ bn)
          have hy : bits .xor .u32 ((s1 : Int) / 256) (tb (s1 % 256 ^^^ bn) : Int) = ((s1 / 256 ^^^ tb (s1 % 256 ^^^ bn) : Nat) : Int) := u32_xor_nat (s1 / 256) (tb (s1 % 256 ^^^ bn)) (by omega) htl
          have HE2 : Hid (tstep tb s1 bn = s1 / 256 ^^^ tb (s1 % 256 ^^^ bn)) := by unfold tstep; rw [Int.toNat_natCast]; rfl
          generalize s1 % 256 ^^^ bn = ix at *
          generalize tb ix = tx at *
          go_wp2
          go_round
          case rel => exact ⟨j + 1, by omega, by go_num, by rw [HE.out, HE2.out]⟩
          case measure => simp [intOf]; omega
        · obtain rfl : j = p.length := by omega
          have HE2 : Hid (tsum tb s0 (p.take p.length) = tsum tb 4294967295 (l.take (k + 1)).flatten) := by
            rw [HE.out, tsum_append, Hs0.out, List.take_length]; rfl
          go_wp2
          go_roundw
          case rel => exact ⟨k + 1, by omega, by go_num, by rw [HE2.out], HBT⟩
          case measure => simp [intOf]; omega
    · obtain rfl : k = l.length := by omega
      rw [List.take_length] at *
      go_wp2
      go_ret
      exact ⟨ret_int (by rw [HF.out.2]; exact u32_flip HF.out.1), (below_alloc (Below.refl w.heap.size w) _).trans (HBT.out.mono (by omega))⟩

theorem sum_any (tb : Nat → Nat) (T : Array Value) (A : Option Addr) (n c : Nat) (l : List (List Int)) (m : Nat) (w : World) (hT : IsTab tb T) (hr0 : (Kd.slice 5 (Kd.int .u8)).C w A n l)
    (hb : ∀ p ∈ l, Bytes p) (hm : sumN tb l.flatten = m) :
    Calls Try.prog 13 #[.agg T, .slice A n c] w fun e w' => e = .returned (.int .u32 (m : Int)) ∧ Below w.heap.size w w' := by
  subst hm; exact sum_any' tb T A n c l w hT hr0 hb

end Go.Proofs.Ytadodibnjdeckaa
