/- code.Check, code.Right. -/
import Derived.Test.YthimlgkegobaeaaDoorCe
namespace Go.Proofs.YthimlgkegobaeaaDoor
open Go.RowKit Go.Shelf Go.Proofs.YthimlgkegobaeaaDoorW.PrintWords Go.Proofs.YthimlgkegobaeaaDoorW.PrintLast Go.Proofs.YthimlgkegobaeaaDoorW.PrintMore
set_option linter.unusedVariables false
set_option linter.unusedSimpArgs false

/-- The fields are of their kinds. -/
def OkI (x : S25) : Prop := (0 ≤ x.f0 ∧ x.f0 < 256) ∧ (0 ≤ x.f1 ∧ x.f1 < 256) ∧ (0 ≤ x.f2 ∧ x.f2 < 256) ∧ (0 ≤ x.f3 ∧ x.f3 < 256) ∧ (-2147483648 ≤ x.f4 ∧ x.f4 < 2147483648) ∧ (0 ≤ x.f5 ∧ x.f5 < 4294967296)
def rightX (x : S25) (size cells players : Int) : Bool := rightB x.f0.toNat x.f1.toNat x.f2.toNat x.f3.toNat x.f4 x.f5.toNat size cells players
theorem nat_of {x : Int} (h : 0 ≤ x) : ((x.toNat : Nat) : Int) = x := Int.toNat_of_nonneg h
theorem rightX_any (x : S25) (hx : OkI x) (size cells players : Int) (w : World) :
    Calls Tryd.prog 39 #[.agg #[.int .u8 x.f0, .int .u8 x.f1, .int .u8 x.f2, .int .u8 x.f3, .int .i32 x.f4, .int .u32 x.f5], .agg (usesK 18), .int .i64 size, .int .i64 cells, .int .i64 players] w fun e w' => e = .returned (.bool (rightX x size cells players)) ∧ Below w.heap.size w w' := by
  obtain ⟨h0, h1, h2, h3, h4, h5⟩ := hx
  have h := right_any x.f0.toNat x.f1.toNat x.f2.toNat x.f3.toNat x.f4 x.f5.toNat size cells players (by omega) (by omega) (by omega) (by omega) h4 (by omega) w
  rw [nat_of h0.1, nat_of h1.1, nat_of h2.1, nat_of h3.1, nat_of h5.1] at h
  exact h
/-- Where the first one stands that may not be. -/
def firstF (size cells players : Int) : List S25 → Nat → Option Nat
  | [], _ => none
  | x :: r, i => if rightX x size cells players = true then firstF size cells players r (i + 1) else some i
def chkAt (l : List S25) (cells players : Int) : Nat := if 96 < l.length then 96 else (firstF l.length cells players l 0).getD 0
def chkOk (l : List S25) (cells players : Int) : Bool := if 96 < l.length then false else (firstF l.length cells players l 0).isNone
theorem firstF_yes {size cells players : Int} {l : List S25} {i : Nat} {x : S25} (hx : l[i]? = some x) (h : rightX x size cells players = true) : firstF size cells players (l.drop i) i = firstF size cells players (l.drop (i + 1)) (i + 1) := by
  obtain ⟨hi, rfl⟩ := List.getElem?_eq_some_iff.1 hx
  rw [List.drop_eq_getElem_cons hi, firstF, if_pos h]
theorem firstF_no {size cells players : Int} {l : List S25} {i : Nat} {x : S25} (hx : l[i]? = some x) (h : rightX x size cells players = false) : firstF size cells players (l.drop i) i = some i := by
  obtain ⟨hi, rfl⟩ := List.getElem?_eq_some_iff.1 hx
  rw [List.drop_eq_getElem_cons hi, firstF, if_neg (by rw [h]; decide)]
theorem rd_some {l : List S25} {i : Nat} (h : i < l.length) : l[i]? = some (rd_T25 l (i : Int)) := by
  unfold rd_T25
  rw [Int.toNat_natCast, List.getD, List.getElem?_eq_getElem h]; rfl
attribute [local irreducible] usesK rightX firstF
set_option maxHeartbeats 8000000 in
set_option maxRecDepth 100000 in
theorem check_any (A : Option Addr) (c : Nat) (l : List S25) (cells players : Int) (w0 : World) (hr : k25.C w0 A l.length l) (hc : l.length ≤ c) (hok : ∀ x ∈ l, OkI x) (hl : l.length < 4611686018427387904) :
    Calls Tryd.prog 18 #[.slice A l.length c, .int .i64 cells, .int .i64 players] w0 fun e w' => e = .returned (.tuple #[.int .i64 (chkAt l cells players : Nat), .bool (chkOk l cells players)]) ∧ Below w0.heap.size w0 w' := by
  have HO := Aside0.mk hok
  have HR := Aside0.mk hr
  have HI := Aside0.mk (uses_info 18)
  have HU := Aside0.mk (usesK_one 18)
  clear hr hok
  by_cases h96 : 96 < l.length
  · have HF : Aside0 (chkAt l cells players = 96 ∧ chkOk l cells players = false) := ⟨by unfold chkAt chkOk; rw [if_pos h96, if_pos h96]; exact ⟨rfl, rfl⟩⟩
    go_enter Tryd.func18, Tryd.ntmps18
    go_wp2_with fail
    go_ret2
    rw [HF.out.1, HF.out.2]
    exact ⟨rfl, Below.refl _ _⟩
  · have HF : Aside0 (chkAt l cells players = (firstF l.length cells players l 0).getD 0 ∧ chkOk l cells players = (firstF l.length cells players l 0).isNone) := ⟨by unfold chkAt chkOk; rw [if_neg h96, if_neg h96]; exact ⟨rfl, rfl⟩⟩
    have hd96 : decide ((96 : Int) < (l.length : Int)) = false := decide_eq_false (by omega)
    go_enter Tryd.func18, Tryd.ntmps18
    go_wp2_with (first
      | (go_at_call 38; (with_reducible refine (uses_any _).mono ?_); rintro e w1 ⟨rfl, hb⟩; have HP := Aside0.mk (((Hp.start w0).call hb).alloc (.cells Tryd.zeroCells79 79)); clear hb)
      | (refine wpList_store_row rfl 79 (.tmp 8) (.tmp 14) rfl w1.heap.size (usesK 18) rfl rfl 79 _ (HP.out.get (i := 0) rfl) HI.out (by rw [usesK_size]; kernel_rfl) HU.out ?_; replace HP := Aside0.mk (HP.out.setRow (i := 0) rfl (usesK 18))))
    generalize hgu : w1.heap.size = gu at *
    clear hgu
    generalize ((w1.alloc (.cells Tryd.zeroCells79 79)).setRow gu (usesK 18)) = W2 at *
    go_loopw [17] (fun v17 wr => ∃ i : Nat, i ≤ l.length ∧ v17 = .int .i64 (i : Int) ∧ Aside0 (firstF l.length cells players l 0 = firstF l.length cells players (l.drop i) i) ∧ Aside0 (Hp w0.heap.size w0 wr [(gu, .cells (usesK 18) 79 (0, 0))] [])) (fun v17 _ => ((l.length : Int) - intV v17).toNat)
    case atStart => exact ⟨0, by omega, rfl, ⟨by rw [List.drop_zero]⟩, HP⟩
    case round =>
      obtain ⟨i, hi, rfl, HFI, HP⟩ := hrel
      by_cases h : i < l.length
      · have hxs := rd_some h
        obtain ⟨ad, hA, c0, c1, c2, c3, c4, c5⟩ := at_T25 (Kd.C_below HR.out HP.out.bel) (i : Int) (by omega) (by omega)
        obtain ⟨x, hx⟩ : ∃ x, rd_T25 l (i : Int) = x := ⟨_, rfl⟩
        rw [hx] at hxs c0 c1 c2 c3 c4 c5
        rw [Int.toNat_natCast] at c0 c1 c2 c3 c4 c5
        subst hA
        have hok := HO.out x (List.mem_of_getElem? hxs)
        have KR := Aside0.mk (rightX_any x hok l.length cells players)
        have HXS := Aside0.mk hxs
        clear hok hx hxs
        have HP2 := Aside0.mk (HP.out.box (.cells #[.int .u8 x.f0, .int .u8 x.f1, .int .u8 x.f2, .int .u8 x.f3, .int .i32 x.f4, .int .u32 x.f5] 25))
        cases hrx : rightX x l.length cells players with
        | true =>
          rw [hrx] at KR
          have HFN := Aside0.mk (HFI.out.trans (firstF_yes HXS.out hrx))
          clear HFI hrx
          go_wp2_with (first
            | (refine wpList_load_row rfl 79 (.tmp 8) rfl gu rfl 79 _ (0, 0) _ (HP2.out.get (i := 0) rfl) Tryd.underlying79 rfl HI.out ?_)
            | (go_at_call 39; (with_reducible refine (KR.out _).mono ?_); rintro e w3 ⟨rfl, hb⟩; replace HP2 := Aside0.mk (HP2.out.call hb); clear hb))
          exact ⟨⟨i + 1, by omega, by congr 1, HFN, HP2⟩, by simp only [intV]; omega⟩
        | false =>
          rw [hrx] at KR
          have HFN := Aside0.mk (HFI.out.trans (firstF_no HXS.out hrx))
          clear HFI hrx
          go_wp2_with (first
            | (refine wpList_load_row rfl 79 (.tmp 8) rfl gu rfl 79 _ (0, 0) _ (HP2.out.get (i := 0) rfl) Tryd.underlying79 rfl HI.out ?_)
            | (go_at_call 39; (with_reducible refine (KR.out _).mono ?_); rintro e w3 ⟨rfl, hb⟩; replace HP2 := Aside0.mk (HP2.out.call hb); clear hb))
          go_ret2
          rw [HF.out.1, HF.out.2, HFN.out]
          exact ⟨rfl, HP2.out.bel⟩
      · obtain rfl : i = l.length := by omega
        have HFN : Aside0 (firstF l.length cells players l 0 = none) := ⟨by rw [HFI.out, List.drop_length]; unfold firstF; rfl⟩
        clear HFI
        go_wp2_with fail
        go_ret2
        rw [HF.out.1, HF.out.2, HFN.out]
        exact ⟨rfl, HP.out.bel⟩
end Go.Proofs.YthimlgkegobaeaaDoor
