/- MaskLaws: the walk. -/
import Derived.Test.YthafmgcflbdjpaaDoorMg
namespace Go.Proofs.YthafmgcflbdjpaaDoor
open Go.RowKit Go.Shelf Go.Proofs.YthafmgcflbdjpaaDoorW.PrintWords Go.Proofs.YthafmgcflbdjpaaDoorW.PrintLast Go.Proofs.YthafmgcflbdjpaaDoorW.PrintMore
attribute [local go_sem] max_two min_two
set_option linter.unusedVariables false
set_option linter.unusedSimpArgs false

theorem max_mx (k k' : IntKind) (x y : Int) : Builtin.max2 (.int k x) (.int k' y) = pure (.int k (mx x y)) := max2_int k k' x y
theorem min_mn (k k' : IntKind) (x y : Int) : Builtin.min2 (.int k x) (.int k' y) = pure (.int k (mn x y)) := min2_int k k' x y
attribute [local go_sem] max_mx min_mn
theorem of0 : withN 0 [] = 0 := rfl
attribute [local irreducible] withN lessN allN hasN textF mx mn pop
theorem text0_any (w : World) (hT : Tabs w) : Calls Tryd.prog 18 #[.int .u32 0] w fun e W' => e = .returned (.string ⟨#[45]⟩) ∧ Below w.heap.size w W' := by
  have h := text_any 0 (by omega) w hT.1 hT.2
  rw [text0] at h
  exact h
theorem bel_trans {w W w' : World} (h : Below w.heap.size w W) (hb : Below W.heap.size W w') : Below w.heap.size w w' := h.trans (hb.mono h.size)
theorem bel_alloc {w W : World} (h : Below w.heap.size w W) (o : Obj) : Below w.heap.size w (W.alloc o) := h.alloc h.size o

theorem obsI_len (a : Nat) : (obsI a).length = (obsF a).length := by unfold obsI; rw [List.length_map]
theorem told99_any (m : Nat) (hm : m < 4294967296) (w : World) (hT : Tabs w) :
    Calls Tryd.prog 17 #[.int .u32 m, .int .i64 99] w fun e W' => ∃ A c, e = .returned (.slice A (obsI m).length c) ∧ (obsI m).length ≤ c ∧ (Kd.int .i64).C W' A (obsI m).length (obsI m) ∧ Below w.heap.size w W' := by
  have h := told_any m hm 99 (by omega) w hT.1 hT.2
  refine h.mono ?_
  rintro e W' ⟨v, rfl, ho, hb⟩
  rw [List.take_of_length_le (by have := obsF_len m; omega)] at ho
  have hR : (Kd.int .i64).R 3 W' w.heap.size (fun _ => True) v (obsI m) := Kd.R_of_own (by rw [obsI_len]; have e : encs (Value.int .i64) (obsI m) = (obsF m).map vF := (by unfold encs obsI; rw [List.map_map]; rfl); rw [e]; exact ho) (fun _ _ => trivial)
  obtain ⟨A, c, rfl, hle, hC⟩ := Kd.R_reads hR
  exact ⟨A, c, rfl, hle, hC, hb⟩
attribute [local irreducible] obsI
set_option maxHeartbeats 8000000 in
set_option maxRecDepth 100000 in
theorem laws_walk (a b : Nat) (hm : a < 4294967296) (hb' : b < 4294967296) (w : World) (hT : Tabs w) :
    Calls Tryd.prog 6 #[.int .u32 a, .int .u32 b] w fun e w' => e = .returned (.bool true) ∧ Below w.heap.size w w' := by
  have HB := Aside0.mk (Below.refl w.heap.size w)
  have P1 := fun x : Int => withN_lt [x] a hm
  have P2 := fun x : Int => withN_lt [x] b hb'
  have Pa : a &&& b < 4294967296 := and_lt hm
  have Po : a ||| b < 4294967296 := or_lt hm hb'
  have Pl : lessN a b < 4294967296 := lessN_lt hm
  have L1 : (lessN (a &&& b) a == 0) = true := laws_1 hm
  have L2 : (lessN (a &&& b) b == 0) = true := laws_2 hm hb'
  have L3 : (lessN a (a ||| b) == 0) = true := laws_3 hm hb'
  have L4 : (lessN b (a ||| b) == 0) = true := laws_4 hm hb'
  have L5 : a &&& b ||| lessN a b = a := laws_5 hm hb'
  have L6 : lessN a b &&& b = 0 := laws_6 hm hb'
  have L7 := laws_7 a b
  have p1 := pop_le 32 a
  have p2 := pop_le 32 b
  have p3 := pop_le 32 (a &&& b)
  have p4 := pop_le 32 (a ||| b)
  obtain ⟨q1, e1⟩ : ∃ q, q = pop 32 a := ⟨_, rfl⟩
  obtain ⟨q2, e2⟩ : ∃ q, q = pop 32 b := ⟨_, rfl⟩
  obtain ⟨q3, e3⟩ : ∃ q, q = pop 32 (a &&& b) := ⟨_, rfl⟩
  obtain ⟨q4, e4⟩ : ∃ q, q = pop 32 (a ||| b) := ⟨_, rfl⟩
  rw [← e1, ← e2, ← e3, ← e4] at L7
  replace L7 : (q3 : Int) + (q4 : Int) = (q1 : Int) + (q2 : Int) := by omega
  have L8 := laws_8 hm hb'
  obtain ⟨t, ht⟩ : ∃ t, (((a &&& b : Nat) : Int) == (a : Int)) = t := ⟨_, rfl⟩
  replace L8 : (lessN a b == 0) = t := by
    rw [L8, ← ht]
    by_cases e : a &&& b = a
    · rw [decide_eq_true e, e]; exact (beq_self_eq_true _).symm
    · rw [decide_eq_false e]; exact (beq_eq_false_iff_ne.2 (by omega)).symm
  have L9 := laws_9 hm
  have K1 := count_any a hm
  have K2 := count_any b hb'
  have K3 := count_any (a &&& b) Pa
  have K4 := count_any (a ||| b) Po
  rw [← e1] at K1 p1
  rw [← e2] at K2 p2
  rw [← e3] at K3 p3
  rw [← e4] at K4 p4
  clear e1 e2 e3 e4
  have K1' := Aside0.mk K1; have K2' := Aside0.mk K2; have K3' := Aside0.mk K3; have K4' := Aside0.mk K4; clear K1 K2 K3 K4
  go_enter Tryd.func6, Tryd.ntmps6
  go_wp2_with (first
    | (go_at_call 7; (with_reducible refine (awake_any _ (hT.below (by first | exact HB.out | exact bel_alloc HB.out _))).mono ?_); rintro e w' ⟨rfl, hb⟩; replace HB := Aside0.mk (bel_trans (by first | exact HB.out | exact bel_alloc HB.out _) hb); clear hb)
    | (go_at_call 12; (with_reducible refine (all_any _ _).mono ?_); rintro e w' ⟨rfl, hb⟩; replace HB := Aside0.mk (bel_trans (by first | exact HB.out | exact bel_alloc HB.out _) hb); clear hb)
    | (go_at_call 13; (with_reducible refine (has_any _ (by first | assumption | exact allN_lt _ | (with_reducible first | exact P1 _ | exact P2 _ | exact lessN_lt hm | exact lessN_lt (P1 _)) | omega) _ _).mono ?_); rintro e w' ⟨rfl, hb⟩; replace HB := Aside0.mk (bel_trans (by first | exact HB.out | exact bel_alloc HB.out _) hb); clear hb)
    | (go_at_call 20; (with_reducible refine (within_any _ _ (by first | assumption | exact allN_lt _ | (with_reducible first | exact P1 _ | exact P2 _ | exact lessN_lt hm | exact lessN_lt (P1 _)) | omega) (by first | assumption | exact allN_lt _ | (with_reducible first | exact P1 _ | exact P2 _ | exact lessN_lt hm | exact lessN_lt (P1 _)) | omega) _).mono ?_); rintro e w' ⟨rfl, hb⟩; replace HB := Aside0.mk (bel_trans (by first | exact HB.out | exact bel_alloc HB.out _) hb); clear hb)
    | (go_at_call 22; (with_reducible refine (less_any _ _ (by first | assumption | exact allN_lt _ | (with_reducible first | exact P1 _ | exact P2 _ | exact lessN_lt hm | exact lessN_lt (P1 _)) | omega) (by first | assumption | exact allN_lt _ | (with_reducible first | exact P1 _ | exact P2 _ | exact lessN_lt hm | exact lessN_lt (P1 _)) | omega) _).mono ?_); rintro e w' ⟨rfl, hb⟩; replace HB := Aside0.mk (bel_trans (by first | exact HB.out | exact bel_alloc HB.out _) hb); clear hb)
    | (go_at_call 15; (with_reducible refine (K1'.out _).mono ?_); rintro e w' ⟨rfl, hb⟩; replace HB := Aside0.mk (bel_trans (by first | exact HB.out | exact bel_alloc HB.out _) hb); clear hb)
    | (go_at_call 15; (with_reducible refine (K2'.out _).mono ?_); rintro e w' ⟨rfl, hb⟩; replace HB := Aside0.mk (bel_trans (by first | exact HB.out | exact bel_alloc HB.out _) hb); clear hb)
    | (go_at_call 15; (with_reducible refine (K3'.out _).mono ?_); rintro e w' ⟨rfl, hb⟩; replace HB := Aside0.mk (bel_trans (by first | exact HB.out | exact bel_alloc HB.out _) hb); clear hb)
    | (go_at_call 15; (with_reducible refine (K4'.out _).mono ?_); rintro e w' ⟨rfl, hb⟩; replace HB := Aside0.mk (bel_trans (by first | exact HB.out | exact bel_alloc HB.out _) hb); clear hb)
    | (go_at_call 21; (with_reducible refine (with1_any _ (by first | assumption | exact allN_lt _ | (with_reducible first | exact P1 _ | exact P2 _ | exact lessN_lt hm | exact lessN_lt (P1 _)) | omega) _ _ _ (Boxed.new _ _ _).cell).mono ?_); rintro e w' ⟨rfl, hb⟩; replace HB := Aside0.mk (bel_trans (by first | exact HB.out | exact bel_alloc HB.out _) hb); clear hb)
    | (go_at_call 9; (with_reducible refine (of1_any _ _ _ (Boxed.new _ _ _).cell).mono ?_); rintro e w' ⟨rfl, hb⟩; replace HB := Aside0.mk (bel_trans (by first | exact HB.out | exact bel_alloc HB.out _) hb); clear hb)
    | (go_at_call 9; (with_reducible refine (of0_any _).mono ?_); rintro e w' ⟨rfl, hb⟩; replace HB := Aside0.mk (bel_trans (by first | exact HB.out | exact bel_alloc HB.out _) hb); clear hb)
    | (go_at_call 23; (with_reducible refine (meet1_any _ _ (by first | assumption | exact allN_lt _ | (with_reducible first | exact P1 _ | exact P2 _ | exact lessN_lt hm | exact lessN_lt (P1 _)) | omega) (by first | assumption | exact allN_lt _ | (with_reducible first | exact P1 _ | exact P2 _ | exact lessN_lt hm | exact lessN_lt (P1 _)) | omega) _ _ (Boxed.new _ _ _).cell).mono ?_); rintro e w' ⟨rfl, hb⟩; replace HB := Aside0.mk (bel_trans (by first | exact HB.out | exact bel_alloc HB.out _) hb); clear hb)
    | (go_at_call 24; (with_reducible refine (join1_any _ _ (by first | assumption | exact allN_lt _ | (with_reducible first | exact P1 _ | exact P2 _ | exact lessN_lt hm | exact lessN_lt (P1 _)) | omega) (by first | assumption | exact allN_lt _ | (with_reducible first | exact P1 _ | exact P2 _ | exact lessN_lt hm | exact lessN_lt (P1 _)) | omega) _ _ (Boxed.new _ _ _).cell).mono ?_); rintro e w' ⟨rfl, hb⟩; replace HB := Aside0.mk (bel_trans (by first | exact HB.out | exact bel_alloc HB.out _) hb); clear hb)
    | (go_at_call 17; (with_reducible refine (told99_any _ (by first | assumption | exact allN_lt _ | (with_reducible first | exact P1 _ | exact P2 _ | exact lessN_lt hm | exact lessN_lt (P1 _)) | omega) _ (hT.below (by first | exact HB.out | exact bel_alloc HB.out _))).mono ?_); rintro e w' ⟨A9, c9, rfl, hle9, hC9, hb⟩; replace HB := Aside0.mk (bel_trans (by first | exact HB.out | exact bel_alloc HB.out _) hb); clear hb)
    | (go_at_call 9; (with_reducible refine (of_any _ _ _ _ hC9 hle9 (by rw [obsI_len]; have := obsF_len a; omega)).mono ?_); rw [L9]; rintro e w' ⟨rfl, hb⟩; replace HB := Aside0.mk (bel_trans (by first | exact HB.out | exact bel_alloc HB.out _) hb); clear hb))
  go_ret
  exact ⟨rfl, HB.out⟩
theorem laws_row (a b : Int) (w : World) (hT : Tabs w) (h0 : 0 ≤ a ∧ a < 4294967296) (h1 : 0 ≤ b ∧ b < 4294967296) :
    Calls Tryd.prog 6 #[.int .u32 a, .int .u32 b] w fun e w' => e = .returned (.bool true) ∧ Below w.heap.size w w' := by
  have h := laws_walk a.toNat b.toNat (by omega) (by omega) w hT
  rw [show ((a.toNat : Nat) : Int) = a by omega, show ((b.toNat : Nat) : Int) = b by omega] at h
  exact h
end Go.Proofs.YthafmgcflbdjpaaDoor
