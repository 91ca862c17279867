/- CodeLong: the walk. -/
import Derived.Test.YthimlgkegobaeaaDoorCh
import Derived.Test.YthimlgkegobaeaaDoorC1
namespace Go.Proofs.YthimlgkegobaeaaDoor
open Go.RowKit Go.Shelf Go.Proofs.YthimlgkegobaeaaDoorW.PrintWords Go.Proofs.YthimlgkegobaeaaDoorW.PrintLast Go.Proofs.YthimlgkegobaeaaDoorW.PrintMore
set_option linter.unusedVariables false
set_option linter.unusedSimpArgs false

def zX : S25 := ⟨0, 0, 0, 0, 0, 0⟩
def jX (t : Int) : S25 := ⟨20, 0, 0, 0, t, 0⟩
theorem zero_info : (Tryd.prog.info? 25).map (fun i => (i.zero, i.size, i.bytes)) = some (some (.agg #[.int .u8 0, .int .u8 0, .int .u8 0, .int .u8 0, .int .i32 0, .int .u32 0]), 6, 12) := by kernel_rfl
theorem made_zeros (K : Nat) : madeCells (#[.int .u8 0, .int .u8 0, .int .u8 0, .int .u8 0, .int .i32 0, .int .u32 0] : Array Value) (K * 6) = ((List.replicate K zX).flatMap cells6).toArray := by
  apply Array.ext
  · rw [size_madeCells]; simp [cells6, List.length_flatMap]
  · intro i h1 h2
    rw [size_madeCells] at h1
    have hj : (List.replicate K zX)[i / 6]? = some zX := by
      rw [List.getElem?_replicate, if_pos (by omega)]
    have hr : i % 6 < 6 := Nat.mod_lt _ (by omega)
    have key := fun u hu => flat6_at (List.replicate K zX) (i / 6) zX hj (i % 6) u hu
    rw [show i / 6 * 6 + i % 6 = i by omega] at key
    have e : ∀ r, r < 6 → (cells6 zX)[r]? = some ((#[.int .u8 0, .int .u8 0, .int .u8 0, .int .u8 0, .int .i32 0, .int .u32 0] : Array Value)[r]!) := by
      intro r hr
      match r, hr with
      | 0, _ => rfl
      | 1, _ => rfl
      | 2, _ => rfl
      | 3, _ => rfl
      | 4, _ => rfl
      | 5, _ => rfl
    have := key _ (e _ hr)
    have h3 : ((List.replicate K zX).flatMap cells6)[i]'(by simpa using h2) = ((#[.int .u8 0, .int .u8 0, .int .u8 0, .int .u8 0, .int .i32 0, .int .u32 0] : Array Value)[i % 6]!) := by
      have h4 := List.getElem?_eq_getElem (l := (List.replicate K zX).flatMap cells6) (i := i) (by simpa using h2)
      rw [this] at h4
      exact (Option.some.inj h4).symm
    simp only [List.getElem_toArray]
    rw [h3]
    simp [madeCells]
theorem set_first (K : Nat) (hK : 1 ≤ K) (t : Int) : (((((((List.replicate K zX).flatMap cells6).toArray.setIfInBounds 0 (.int .u8 20)).setIfInBounds 1 (.int .u8 0)).setIfInBounds 2 (.int .u8 0)).setIfInBounds 3 (.int .u8 0)).setIfInBounds 4 (.int .i32 t)).setIfInBounds 5 (.int .u32 0) = ((jX t :: List.replicate (K - 1) zX).flatMap cells6).toArray := by
  obtain ⟨m, rfl⟩ : ∃ m, K = m + 1 := ⟨K - 1, by omega⟩
  rw [List.replicate_succ, List.flatMap_cons, Nat.add_sub_cancel, List.flatMap_cons]
  simp [cells6, zX, jX]
theorem right_zero (N : Int) (M : Int) (hN : 0 ≤ N) (size : Int) : rightX zX size N M = true := by
  unfold rightX rightB zX
  simp only [show ((0 : Int)).toNat = 0 from rfl]
  rw [decide_eq_true (by omega), Bool.true_and]
  unfold rightU
  rw [if_neg (by decide)]
  rfl
theorem first_zeros (size N M : Int) (hN : 0 ≤ N) : ∀ (m i : Nat), firstF size N M (List.replicate m zX) i = none
  | 0, i => rfl
  | m + 1, i => by rw [List.replicate_succ, firstF, if_pos (right_zero N M hN size)]; exact first_zeros size N M hN m (i + 1)
theorem chk_zeros (K : Nat) : chkOk (List.replicate K zX) 1 1 = decide (K ≤ 96) := by
  unfold chkOk
  rw [List.length_replicate]
  by_cases h : K ≤ 96
  · rw [if_neg (by omega), first_zeros _ _ _ (by omega), decide_eq_true h]; rfl
  · rw [if_pos (by omega), decide_eq_false h]
theorem right_jump (t size N M : Int) : rightX (jX t) size N M = (decide (0 ≤ t) && decide (t ≤ size)) := by
  unfold rightX rightB jX
  simp only [show ((20 : Int)).toNat = 20 from rfl, show ((0 : Int)).toNat = 0 from rfl]
  rw [decide_eq_true (by omega), Bool.true_and]
  unfold rightU
  rw [if_neg (by decide), show (useO 20).n = 3 from rfl]
  unfold numB
  rw [if_neg (by omega), if_neg (by omega), if_pos rfl]
  rw [show regB (useO 20).a 0 = true from rfl, show regB (useO 20).b 0 = true from rfl, show regB (useO 20).c 0 = true from rfl]
  simp
theorem chk_jump (K : Nat) (hK : 1 ≤ K) (t : Int) : chkOk (jX t :: List.replicate (K - 1) zX) 1 1 = (decide (K ≤ 96) && (decide (0 ≤ t) && decide (t ≤ (K : Int)))) := by
  unfold chkOk
  have e : (jX t :: List.replicate (K - 1) zX).length = K := by simp; omega
  rw [e]
  by_cases h : K ≤ 96
  · rw [if_neg (by omega), decide_eq_true h, Bool.true_and, firstF, right_jump]
    cases hb : (decide (0 ≤ t) && decide (t ≤ (K : Int))) with
    | true => rw [if_pos rfl, first_zeros _ _ _ (by omega)]; rfl
    | false => rw [if_neg (by decide)]; rfl
  · rw [if_pos (by omega), decide_eq_false h, Bool.false_and]
theorem jX_ok (t : Int) (ht : -2147483648 ≤ t ∧ t < 2147483648) : OkI (jX t) := by unfold OkI jX; simp; omega
theorem zX_ok : OkI zX := by unfold OkI zX; simp
attribute [local irreducible] chkOk cBytes
set_option maxHeartbeats 8000000 in
set_option maxRecDepth 100000 in
theorem long_walk (n t : Int) (w0 : World) (hT : CTab w0) (hn : 0 ≤ n ∧ n < 256) (ht : -2147483648 ≤ t ∧ t < 2147483648) :
    Calls Tryd.prog 6 #[.int .u8 n, .int .i32 t] w0 fun e w' => e = .returned (.bool true) ∧ Below w0.heap.size w0 w' := by
  have HB := Aside0.mk (Below.refl w0.heap.size w0)
  obtain ⟨K, hK⟩ : ∃ K : Nat, 1 + n % 110 = (K : Int) := ⟨(1 + n % 110).toNat, by omega⟩
  have hK1 : 1 ≤ K ∧ K ≤ 110 := by omega
  obtain ⟨i0, hi, hz0, hz1, hz2⟩ := info_parts zero_info
  have hmk : ∀ W : World, (Instr.makeSlice 32 (.int .i64 (K : Int)) (.int .i64 (K : Int))).run Tryd.prog W = .ok (.slice (some ⟨W.heap.size, 0, none⟩) K K) (W.alloc (.cells ((List.replicate K zX).flatMap cells6).toArray 25)) := fun W => by
    have h := run_makeSlice (P := Tryd.prog) W 32 25 i0 _ Tryd.underlying32 hi hz0 .i64 .i64 (K : Int) (K : Int) (by omega) (by omega) (by rw [hz1]; omega) (by rw [hz2]; omega) (by omega)
    rw [Int.toNat_natCast, hz1] at h
    rw [← made_zeros]
    exact h
  clear hi hz0 hz1 hz2 i0
  have hsf := set_first K hK1.1 t
  have HSF := Aside0.mk hsf
  clear hsf
  obtain ⟨ok, hok⟩ : ∃ b, decide ((K : Int) ≤ 96) = b := ⟨_, rfl⟩
  have hokn : decide (K ≤ 96) = ok := by rw [← hok, decide_eq_decide]; omega
  have KR1 := Aside0.mk (fun (g : Nat) (z : World) (h : z.heap[g]? = some (.cells ((List.replicate K zX).flatMap cells6).toArray 25 (0, 0))) => coderight_any (some ⟨g, 0, none⟩) K (List.replicate K zX) 1 1 z (codes_C h (by simp; omega)) (by simp) (fun x hx => by rw [(List.mem_replicate.1 hx).2]; exact zX_ok) (by simp; omega))
  rw [chk_zeros, hokn, List.length_replicate] at KR1
  have KR2 := Aside0.mk (fun (g : Nat) (z : World) (h : z.heap[g]? = some (.cells ((jX t :: List.replicate (K - 1) zX).flatMap cells6).toArray 25 (0, 0))) => coderight_any (some ⟨g, 0, none⟩) K (jX t :: List.replicate (K - 1) zX) 1 1 z (codes_C h (by simp; omega)) (by simp; omega) (fun x hx => by rcases List.mem_cons.1 hx with rfl | hx; exact jX_ok t ht; rw [(List.mem_replicate.1 hx).2]; exact zX_ok) (by simp; omega))
  rw [chk_jump K hK1.1 t, hokn, show (jX t :: List.replicate (K - 1) zX).length = K by simp; omega] at KR2
  have KB : Aside0 (∀ (g : Nat) (z : World), z.heap[g]? = some (.cells ((List.replicate K zX).flatMap cells6).toArray 25 (0, 0)) → Calls Tryd.prog 21 #[.slice (some ⟨g, 0, none⟩) K K] z fun e w' => ∃ (B : Option Addr) (m d : Nat), e = .returned (.slice B m d) ∧ decide (0 < m) = ok ∧ Below z.heap.size z w') := ⟨fun g z h => by
    have hC := codes_C h (by simp; omega)
    rw [List.length_replicate] at hC
    by_cases h96 : K ≤ 96
    · have := cbytes_any (some ⟨g, 0, none⟩) K (List.replicate K zX) z (by rw [List.length_replicate]; exact hC) (by simp) (fun x hx => by rw [(List.mem_replicate.1 hx).2]; exact zX_ok) (by simpa using h96)
      rw [List.length_replicate] at this
      refine this.mono ?_
      rintro e w' ⟨v, rfl, hR, hb⟩
      obtain ⟨B, d, rfl, -, -⟩ := Kd.R_reads hR
      refine ⟨B, _, d, rfl, ?_, hb⟩
      rw [← hokn, decide_eq_decide]
      have e1 : (cBytes (List.replicate K zX)).length = 1 + 12 * K := by unfold cBytes; rw [List.length_append, flat_len]; simp
      rw [e1]; omega
    · have := cbytes_no (some ⟨g, 0, none⟩) K (List.replicate K zX) z (by simp; omega)
      rw [List.length_replicate] at this
      refine this.mono ?_
      rintro e w' ⟨rfl, hb⟩
      refine ⟨none, 0, 0, rfl, ?_, hb⟩
      rw [← hokn, decide_eq_decide]
      simp; omega⟩
  clear hokn
  generalize hZ : ((List.replicate K zX).flatMap cells6).toArray = Z at *
  generalize hJ : ((jX t :: List.replicate (K - 1) zX).flatMap cells6).toArray = J at *
  have hZs : Z.size = K * 6 := by rw [← hZ, ← made_zeros, size_madeCells]
  clear hZ hJ
  have HZS := Aside0.mk hZs
  have HK1 := Aside0.mk hK1
  clear hZs
  go_enter Tryd.func6, Tryd.ntmps6
  go_wp2_with (first
    | (go_at_call 10; (with_reducible refine (awake_any _ (hT.below HB.out)).mono ?_); rintro e w1 ⟨rfl, hb⟩; have HP := Aside0.mk (((Hp.start w0).call (bel_t8 HB.out hb)).alloc (.cells Z 25)); clear hb)
    | (go_at_call 13; refine (KR1.out _ _ (HP.out.get (i := 0) rfl)).mono ?_; rintro e w2 ⟨rfl, hb⟩; replace HP := Aside0.mk (HP.out.call hb); clear hb KR1)
    | (go_at_call 21; refine (KB.out _ _ (HP.out.get (i := 0) rfl)).mono ?_; rintro e w3 ⟨B, m, d, rfl, hm, hb⟩; replace HP := Aside0.mk (HP.out.call hb); clear hb KB; obtain ⟨x0, c0⟩ : ∃ v, w3.cell? ⟨w1.heap.size, 0, none⟩ = some v := ⟨_, by rw [cell_of_row _ _ _ _ _ _ (HP.out.get (i := 0) rfl)]; exact Array.getElem?_eq_getElem (by have := HZS.out; have := HK1.out; omega)⟩; have f0 : w3.frozen? ⟨w1.heap.size, 0, none⟩ = false := blk_frozen (HP.out.get (i := 0) rfl) 0; obtain ⟨x1, c1⟩ : ∃ v, w3.cell? ⟨w1.heap.size, 1, none⟩ = some v := ⟨_, by rw [cell_of_row _ _ _ _ _ _ (HP.out.get (i := 0) rfl)]; exact Array.getElem?_eq_getElem (by have := HZS.out; have := HK1.out; omega)⟩; have f1 : w3.frozen? ⟨w1.heap.size, 1, none⟩ = false := blk_frozen (HP.out.get (i := 0) rfl) 1; obtain ⟨x2, c2⟩ : ∃ v, w3.cell? ⟨w1.heap.size, 2, none⟩ = some v := ⟨_, by rw [cell_of_row _ _ _ _ _ _ (HP.out.get (i := 0) rfl)]; exact Array.getElem?_eq_getElem (by have := HZS.out; have := HK1.out; omega)⟩; have f2 : w3.frozen? ⟨w1.heap.size, 2, none⟩ = false := blk_frozen (HP.out.get (i := 0) rfl) 2; obtain ⟨x3, c3⟩ : ∃ v, w3.cell? ⟨w1.heap.size, 3, none⟩ = some v := ⟨_, by rw [cell_of_row _ _ _ _ _ _ (HP.out.get (i := 0) rfl)]; exact Array.getElem?_eq_getElem (by have := HZS.out; have := HK1.out; omega)⟩; have f3 : w3.frozen? ⟨w1.heap.size, 3, none⟩ = false := blk_frozen (HP.out.get (i := 0) rfl) 3; obtain ⟨x4, c4⟩ : ∃ v, w3.cell? ⟨w1.heap.size, 4, none⟩ = some v := ⟨_, by rw [cell_of_row _ _ _ _ _ _ (HP.out.get (i := 0) rfl)]; exact Array.getElem?_eq_getElem (by have := HZS.out; have := HK1.out; omega)⟩; have f4 : w3.frozen? ⟨w1.heap.size, 4, none⟩ = false := blk_frozen (HP.out.get (i := 0) rfl) 4; obtain ⟨x5, c5⟩ : ∃ v, w3.cell? ⟨w1.heap.size, 5, none⟩ = some v := ⟨_, by rw [cell_of_row _ _ _ _ _ _ (HP.out.get (i := 0) rfl)]; exact Array.getElem?_eq_getElem (by have := HZS.out; have := HK1.out; omega)⟩; have f5 : w3.frozen? ⟨w1.heap.size, 5, none⟩ = false := blk_frozen (HP.out.get (i := 0) rfl) 5; have HP2 := Aside0.mk (((((((HP.out.setCell (i := 0) rfl 0 (.int .u8 20)).setCell (i := 0) rfl 1 (.int .u8 0)).setCell (i := 0) rfl 2 (.int .u8 0)).setCell (i := 0) rfl 3 (.int .u8 0)).setCell (i := 0) rfl 4 (.int .i32 t)).setCell (i := 0) rfl 5 (.int .u32 0)).alt (i := 0) (o' := .cells J 25 (0, 0)) rfl (by rw [HSF.out])))
    | (go_at_call 13; refine (KR2.out _ _ (HP2.out.get (i := 0) rfl)).mono ?_; rintro e w4 ⟨rfl, hb⟩; have HP3 := Aside0.mk (HP2.out.call hb); clear hb KR2))
  all_goals go_ret
  all_goals exact ⟨rfl, HP3.out.bel⟩
end Go.Proofs.YthimlgkegobaeaaDoor
