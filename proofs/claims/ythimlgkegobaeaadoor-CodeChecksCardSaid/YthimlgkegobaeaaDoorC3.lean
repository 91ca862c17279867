/- CodeChecks: the walk. -/
import Derived.Test.YthimlgkegobaeaaDoorC1
namespace Go.Proofs.YthimlgkegobaeaaDoor
open Go.RowKit Go.Shelf Go.Proofs.YthimlgkegobaeaaDoorW.PrintWords Go.Proofs.YthimlgkegobaeaaDoorW.PrintLast Go.Proofs.YthimlgkegobaeaaDoorW.PrintMore
set_option linter.unusedVariables false
set_option linter.unusedSimpArgs false

theorem max_mx3 (k k' : IntKind) (x y : Int) : Builtin.max2 (.int k x) (.int k' y) = pure (.int k (mx x y)) := max2_int k k' x y
attribute [local go_sem] max_two min_two max_mx3
theorem chk_rel (l : List S25) (cells players : Int) : decide (chkR l cells players < 0) = chkOk l cells players ∧ mx (chkR l cells players) 0 = (chkAt l cells players : Nat) := by
  unfold chkR chkOk chkAt
  by_cases h : 96 < l.length
  · rw [if_pos h, if_pos h, if_pos h]; exact ⟨by decide, by unfold mx; rw [if_neg (by omega)]; rfl⟩
  · rw [if_neg h, if_neg h, if_neg h]
    cases firstF l.length cells players l 0 with
    | none => exact ⟨by decide, by show mx (-1) 0 = _; decide⟩
    | some i =>
      refine ⟨?_, ?_⟩
      · show decide ((i : Int) < 0) = false
        exact decide_eq_false (by omega)
      · show mx (i : Int) 0 = (i : Int)
        unfold mx; rw [if_neg (by omega)]
attribute [local irreducible] chkOk chkAt chkR cntR
set_option maxHeartbeats 8000000 in
set_option maxRecDepth 100000 in
theorem checks_walk (A : Option Addr) (len c : Nat) (l : List S25) (cells players : Int) (w0 : World) (hT : CTab w0) (hr : k25.C w0 A len l) (hc : len ≤ c) (hw : ∀ x ∈ l, OkW x) (h1 : -9223372036854775808 ≤ cells ∧ cells < 9223372036854775808) (h2 : -9223372036854775808 ≤ players ∧ players < 9223372036854775808) :
    Calls Tryd.prog 5 #[.slice A len c, .int .i64 cells, .int .i64 players] w0 fun e w' => e = .returned (.bool true) ∧ Below w0.heap.size w0 w' := by
  obtain rfl : len = l.length := hr.1.symm
  have HB := Aside0.mk (Below.refl w0.heap.size w0)
  obtain ⟨L, hL⟩ : ∃ L, l.take 110 = L := ⟨_, rfl⟩
  have hL110 : L.length ≤ 110 := by rw [← hL]; simp; omega
  have hok : ∀ x ∈ L, OkI x := fun x hx => (hw x (by rw [← hL] at hx; exact List.mem_of_mem_take hx)).ok
  have KF := Aside0.mk (fun (z : World) (h : Below w0.heap.size w0 z) => few_any A c l z (Kd.C_below hr h) hc)
  rw [hL] at KF
  obtain ⟨r1, r2⟩ := chk_rel L cells players
  obtain ⟨ok, hoke⟩ : ∃ b, chkOk L cells players = b := ⟨_, rfl⟩
  obtain ⟨at_, hate⟩ : ∃ n, chkAt L cells players = n := ⟨_, rfl⟩
  obtain ⟨W, hWe⟩ : ∃ n, chkR L cells players = n := ⟨_, rfl⟩
  rw [hoke, hWe] at r1
  rw [hate, hWe] at r2
  have HOK := Aside0.mk hok
  have KC := Aside0.mk (fun (A1 : Option Addr) (c1 : Nat) (z : World) (h : k25.C z A1 L.length L) (h' : L.length ≤ c1) => check_any A1 c1 L cells players z h h' HOK.out (by omega))
  have KR := Aside0.mk (fun (A1 : Option Addr) (c1 : Nat) (z : World) (h : k25.C z A1 L.length L) (h' : L.length ≤ c1) => coderight_any A1 c1 L cells players z h h' HOK.out (by omega))
  have KD := Aside0.mk (fun (A1 : Option Addr) (c1 : Nat) (z : World) (h : k29.C z A1 L.length (L.map toX)) (h' : L.length ≤ c1) => check08_any A1 c1 L cells players z h h' HOK.out (by omega))
  rw [hoke, hate] at KC
  rw [hoke] at KR
  rw [hWe] at KD
  clear hr hc hw hok hL hoke hate hWe
  go_enter Tryd.func5, Tryd.ntmps5
  go_wp2_with (first
    | (go_at_call 10; (with_reducible refine (awake_any _ (hT.below HB.out)).mono ?_); rintro e w1 ⟨rfl, hb⟩; replace HB := Aside0.mk (bel_t8 HB.out hb); clear hb)
    | (go_at_call 17; (with_reducible refine (KF.out _ HB.out).mono ?_); rintro e w1 ⟨A1, c1, rfl, hc1, hC1, hb⟩; replace HB := Aside0.mk (bel_t8 HB.out hb); have HL := Aside0.mk (And.intro hc1 hC1); clear hb hc1 hC1)
    | (go_at_call 18; (with_reducible refine (KC.out A1 c1 _ HL.out.2 HL.out.1).mono ?_); rintro e w1 ⟨rfl, hb⟩; replace HB := Aside0.mk (bel_t8 HB.out hb); replace HL := Aside0.mk (And.intro HL.out.1 (Kd.C_below HL.out.2 hb)); clear hb)
    | (go_at_call 12; (with_reducible refine (own_any A1 c1 L _ HL.out.2 HL.out.1 (by omega)).mono ?_); rintro e w1 ⟨A2, c2, rfl, hc2, hC2, hb⟩; replace HB := Aside0.mk (bel_t8 HB.out hb); replace HL := Aside0.mk (And.intro HL.out.1 (Kd.C_below HL.out.2 hb)); have HW := Aside0.mk (And.intro hc2 hC2); clear hb hc2 hC2)
    | (go_at_call 19; (with_reducible refine (KD.out A2 c2 _ HW.out.2 HW.out.1).mono ?_); rintro e w1 ⟨rfl, hb⟩; replace HB := Aside0.mk (bel_t8 HB.out hb); replace HL := Aside0.mk (And.intro HL.out.1 (Kd.C_below HL.out.2 hb)); clear hb))
  go_loopw [10, 31] (fun v10 v31 wr => ∃ i : Nat, i ≤ L.length ∧ v31 = .int .i64 (i : Int) ∧ v10 = .int .i64 (cntR (L.take i) : Nat) ∧ Aside0 (Below w0.heap.size w0 wr ∧ Below w1.heap.size w1 wr)) (fun _ v31 _ => ((L.length : Int) - intV v31).toNat)
  case atStart => exact ⟨0, by omega, rfl, by unfold cntR; rfl, ⟨HB.out, Below.refl _ _⟩⟩
  case round =>
    obtain ⟨i, hi, rfl, rfl, HBR⟩ := hrel
    by_cases h : i < L.length
    · have hxs := rd_some h
      obtain ⟨ad, hA, c0, d1, d2, d3, d4, d5⟩ := at_T25 (Kd.C_below HL.out.2 HBR.out.2) (i : Int) (by omega) (by omega)
      obtain ⟨x, hx⟩ : ∃ x, rd_T25 L (i : Int) = x := ⟨_, rfl⟩
      rw [rdX h] at hx
      rw [rdX h, hx] at c0 d1 d2 d3 d4 d5
      rw [Int.toNat_natCast] at c0 d1 d2 d3 d4 d5
      subst hA
      have hs := cntR_snoc h
      rw [hx] at hs
      have hle := cntR_le (L.take i)
      have hlt : (L.take i).length ≤ 110 := by simp; omega
      obtain ⟨q, hq⟩ : ∃ q, cntR (L.take i) = q := ⟨_, rfl⟩
      rw [hq] at hs hle ⊢
      have hq9 : q < 1000 := by omega
      have HBR2 := Aside0.mk (And.intro (below_alloc HBR.out.1 (.cells #[.int .u8 x.f0, .int .u8 x.f1, .int .u8 x.f2, .int .u8 x.f3, .int .i32 x.f4, .int .u32 x.f5] 25)) (below_alloc HBR.out.2 (.cells #[.int .u8 x.f0, .int .u8 x.f1, .int .u8 x.f2, .int .u8 x.f3, .int .i32 x.f4, .int .u32 x.f5] 25)))
      by_cases e22 : x.f0 = 22
      · have eb : (x.f0 == 22) = true := beq_iff_eq.2 e22
        rw [if_pos e22] at hs
        have HS := Aside0.mk hs
        clear hs hq hx hxs e22 hle hlt
        go_wp2_with fail
        exact ⟨⟨i + 1, by omega, by congr 1, by rw [HS.out]; congr 1, HBR2⟩, by simp only [intV]; omega⟩
      · have eb : (x.f0 == 22) = false := beq_eq_false_iff_ne.2 e22
        rw [if_neg e22] at hs
        have HS := Aside0.mk hs
        clear hs hq hx hxs e22 hle hlt
        go_wp2_with fail
        exact ⟨⟨i + 1, by omega, by congr 1, by rw [HS.out]; congr 1, HBR2⟩, by simp only [intV]; omega⟩
    · obtain rfl : i = L.length := by omega
      rw [List.take_of_length_le (Nat.le_refl _)]
      have HL2 := Aside0.mk (And.intro HL.out.1 (Kd.C_below HL.out.2 HBR.out.2))
      have HB2 := Aside0.mk HBR.out.1
      have KS := Aside0.mk (fun (A1 : Option Addr) (c1 : Nat) (z : World) (h : k25.C z A1 L.length L) (h' : L.length ≤ c1) => reals_any A1 c1 L z h h' (by omega))
      generalize cntR L = cn at *
      go_wp2_with (first
        | (go_at_call 13; (with_reducible refine (KR.out A1 c1 _ HL2.out.2 HL2.out.1).mono ?_); rintro e w9 ⟨rfl, hb⟩; replace HB2 := Aside0.mk (bel_t8 HB2.out hb); replace HL2 := Aside0.mk (And.intro HL2.out.1 (Kd.C_below HL2.out.2 hb)); clear hb)
        | (go_at_call 20; (with_reducible refine (KS.out A1 c1 _ HL2.out.2 HL2.out.1).mono ?_); rintro e w9 ⟨rfl, hb⟩; replace HB2 := Aside0.mk (bel_t8 HB2.out hb); replace HL2 := Aside0.mk (And.intro HL2.out.1 (Kd.C_below HL2.out.2 hb)); clear hb))
      go_ret
      exact ⟨rfl, HB2.out⟩
end Go.Proofs.YthimlgkegobaeaaDoor
