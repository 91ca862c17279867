/- law06.own, the document's Put, View, Sees, Same. -/
import Derived.Test.YtkjjmmgngdpppaaUn
import Derived.BigQuiet
import Derived.Deep.QuietTactic
namespace Go.Proofs.Ytkjjmmgngdpppaa
open Go.RowKit Go.Proofs.YtkjjmmgngdpppaaW.PrintWords Go.Proofs.YtkjjmmgngdpppaaW.PrintLast Go.Proofs.YtkjjmmgngdpppaaW.PrintMore
set_option linter.unusedVariables false
set_option linter.unusedSimpArgs false

def toR (x : S25) : S52 := ⟨x.f0, x.f1⟩
theorem rdT25_get {L : List S25} {j : Nat} (h : j < L.length) : rd_T25 L (j : Int) = L[j] := by
  unfold rd_T25; rw [List.getD_eq_getElem?_getD, Int.toNat_natCast, List.getElem?_eq_getElem h]; rfl
theorem rdT52_get {L : List S52} {j : Nat} (h : j < L.length) : rd_T52 L (j : Int) = L[j] := by
  unfold rd_T52; rw [List.getD_eq_getElem?_getD, Int.toNat_natCast, List.getElem?_eq_getElem h]; rfl
theorem wrap_succ {j : Nat} (h : j ≤ 1000000) : wrap64 ((j : Int) + 1) = ((j + 1 : Nat) : Int) := by unfold wrap64; omega
theorem own_l0 (L : List S25) (hL : L.length ≤ 1000000) : ∀ (d k j : Nat) (acc : List S52), L.length - j = d → d < k → j ≤ L.length → acc.length ≤ j → hoodwinklaw06_own.l0 k acc L (L.length : Int) (j : Int) = some (acc ++ (L.drop j).map toR)
  | 0, k, j, acc, hd, hk, hj, ha => by
    obtain ⟨k, rfl⟩ : ∃ m, k = m + 1 := ⟨k - 1, by omega⟩
    simp only [hoodwinklaw06_own.l0]
    rw [if_neg (by omega), List.drop_of_length_le (by omega)]; simp
  | d + 1, k, j, acc, hd, hk, hj, ha => by
    obtain ⟨k, rfl⟩ : ∃ m, k = m + 1 := ⟨k - 1, by omega⟩
    have hlt : j < L.length := by omega
    simp only [hoodwinklaw06_own.l0]
    rw [if_pos (by omega), if_pos (by omega), if_pos (by omega), if_pos (by omega), wrap_succ (by omega), own_l0 L hL d k (j + 1) _ (by omega) (by omega) (by omega) (by simp; omega), List.drop_eq_getElem_cons hlt, rdT25_get hlt, List.append_assoc]
    rfl
theorem own_any (A : Option Addr) (n c : Nat) (L : List S25) (w : World) (hr : k25.C w A n L) (hc : n ≤ c) (hn : n ≤ 1000000) :
    Calls Try.prog 20 #[.slice A n c] w fun e w' => ∃ v, e = .returned v ∧ k52.R 52 w' w.heap.size (fun _ => True) v (L.map toR) ∧ Below w.heap.size w w' := by
  obtain rfl := hr.1
  exact hoodwinklaw06_own.calls (L.length + 1) A c L _ w hr hc (by
    have := own_l0 L hn L.length (L.length + 1) 0 [] (by omega) (by omega) (by omega) (Nat.le_refl _)
    simpa [hoodwinklaw06_own.f] using this)
theorem refput_f (l : List S52) (j : Nat) (c : S52) (hj : j < l.length) (hl : l.length ≤ 1000000) : hoodwinkref06_Put.f l (j : Int) c.f0 c.f1 = some (l.set j c) := by
  unfold hoodwinkref06_Put.f
  show (if ([] : List S52).length + l.length < 17592186044416 then _ else none) = _
  rw [if_pos (by simp; omega)]
  show (if (0 : Int) ≤ (j : Int) then (if (j : Int) < (([] ++ l : List S52).length : Int) then some (([] ++ l : List S52).set (j : Int).toNat ⟨c.f0, c.f1⟩) else none) else none) = _
  rw [if_pos (by omega), List.nil_append, if_pos (by omega), Int.toNat_natCast]
theorem refput_any (A : Option Addr) (n c : Nat) (l : List S52) (j : Nat) (x : S52) (w : World) (hr : k52.C w A n l) (hc : n ≤ c) (hn : n ≤ 1000000) (hj : j < n) :
    Calls Try.prog 22 #[.slice A n c, .int .i64 j, .agg #[.int .i32 x.f0, .int .u32 x.f1]] w fun e w' => ∃ v, e = .returned v ∧ k52.R 52 w' w.heap.size (fun _ => True) v (l.set j x) ∧ Below w.heap.size w w' := by
  obtain rfl := hr.1
  exact hoodwinkref06_Put.calls A c l j x.f0 x.f1 _ w hr hc (refput_f l j x hj hn)

/-! ### Same -/
theorem eqCellR (d : Nat) (w : World) (x0 y0 : Int) (x1 y1 : Int) :
    (Op.equalIn (d + 2) 52 (.agg #[.int .i32 x0, .int .u32 x1]) (.agg #[.int .i32 y0, .int .u32 y1])).run Try.prog w = .ok (x0 == y0 && (x1 == y1)) w := by
  refine eqA_of Try.underlying52 (by kernel_rfl) ?_
  refine eqf_cons (by rfl) (by go_simp; rfl) (by go_simp; rfl) (by go_simp) ?_
  exact eqf_last (by rfl) (by go_simp; rfl) (by go_simp; rfl) (by go_simp)
theorem cellR_neq (a b c d : Int) (w : World) : (binOp .neq 52 (.agg #[.int .i32 a, .int .u32 b]) (.agg #[.int .i32 c, .int .u32 d])).run Try.prog w = .ok (.bool (!(a == c && (b == d)))) w := by
  rw [run_neq_struct, eqCellR 9998]; rfl
theorem cellR_guard (op : BinOp) (x y : Operand) (xs ys : Array Value) (w : World) : (eqGuard op 52 x y (.agg xs) (.agg ys)).run Try.prog w = .ok () w := run_eqGuard_agg w op _ x y xs ys (by kernel_rfl)
def sameL : List S52 → List S52 → Bool
  | [], [] => true
  | x :: xs, y :: ys => (x.f0 == y.f0 && x.f1 == y.f1) && sameL xs ys
  | _, _ => false
theorem S52_eq {a b : S52} : (a.f0 == b.f0 && a.f1 == b.f1) = true ↔ a = b := by
  cases a; cases b; simp
theorem sameL_iff : ∀ x y : List S52, sameL x y = true ↔ x = y
  | [], [] => by simp [sameL]
  | x :: xs, y :: ys => by rw [sameL, Bool.and_eq_true, S52_eq, sameL_iff xs ys, List.cons.injEq]
  | [], y :: ys => by simp [sameL]
  | x :: xs, [] => by simp [sameL]
theorem sameL_refl (x : List S52) : sameL x x = true := (sameL_iff x x).2 rfl
theorem sameL_ne {x y : List S52} (h : x ≠ y) : sameL x y = false := by
  cases e : sameL x y with
  | true => exact absurd ((sameL_iff x y).1 e) h
  | false => rfl
theorem cell_at52 {w : World} {A : Option Addr} {n : Nat} {x : List S52} (h : k52.C w A n x) {j : Nat} (hj : j < x.length) : ∃ ad, A = some ad ∧ w.cell? (ad.add (j * 2)) = some (.int .i32 x[j].f0) ∧ w.cell? ⟨(ad.add (j * 2)).block, (ad.add (j * 2)).off + 1, none⟩ = some (.int .u32 x[j].f1) := by
  have := at_T52 h (j : Int) (by omega) (by have := h.1; omega)
  rw [rdT52_get hj, Int.toNat_natCast] at this
  exact this
set_option maxRecDepth 100000 in
set_option maxHeartbeats 4000000 in
theorem same_any (A B : Option Addr) (n m c d : Nat) (x y : List S52) (w : World) (hx : k52.C w A n x) (hy : k52.C w B m y) (hn : n ≤ 1000000) (hm : m ≤ 1000000) :
    Calls Try.prog 23 #[.slice A n c, .slice B m d] w fun e w' => e = .returned (.bool (sameL x y)) ∧ Drawn0 w w' := by
  have hlx := hx.1
  have hly := hy.1
  by_cases hnm : n = m
  · subst hnm
    have HX := Aside0.mk hx
    have HY := Aside0.mk hy
    have HL := Aside0.mk (And.intro hlx hly)
    have d0 : ((n : Int) != n) = false := by simp
    clear hx hy hlx hly
    go_enter Try.func23, Try.ntmps23
    go_wp2_with fail
    go_loopw [13] (fun v13 wr => ∃ i : Nat, i ≤ n ∧ v13 = .int .i64 i ∧ Aside0 (x.take i = y.take i ∧ Drawn0 w wr)) (fun v13 _ => n - (intOf v13).toNat)
    case atStart => exact ⟨0, by omega, rfl, ⟨by simp, Drawn0.refl w⟩⟩
    case round =>
      obtain ⟨i, hi, rfl, H⟩ := hrel
      by_cases hlt : i < n
      · have d1 : decide (i < n) = true := decide_eq_true hlt
        have hix : i < x.length := by have := HL.out; omega
        have hiy : i < y.length := by have := HL.out; omega
        obtain ⟨n0, hw⟩ := H.out.2
        subst hw
        obtain ⟨ax, rfl, x0, x1⟩ := cell_at52 HX.out hix
        obtain ⟨ay, rfl, y0, y1⟩ := cell_at52 HY.out hiy
        have hcn := cellR_neq x[i].f0 x[i].f1 y[i].f0 y[i].f1
        have hcg := cellR_guard
        have HE := Aside0.mk (S52_eq (a := x[i]) (b := y[i]))
        have HT := Aside0.mk (And.intro (take_snoc hix) (take_snoc hiy))
        cases hq : (x[i].f0 == y[i].f0 && x[i].f1 == y[i].f1) with
        | true =>
          rw [hq] at hcn HE
          have H2 := Aside0.mk (HE.out.1 rfl)
          generalize x[i].f0 = x0v at *
          generalize x[i].f1 = x1v at *
          generalize y[i].f0 = y0v at *
          generalize y[i].f1 = y1v at *
          rw [Bool.not_true] at hcn
          clear hq HE
          go_wp2_with fail
          go_region
          go_wp2_with fail
          go_roundw
          case rel => exact ⟨i + 1, by omega, by go_num, ⟨by rw [HT.out.1, HT.out.2, H.out.1, H2.out], ⟨⟨n0 + 1, rfl⟩⟩⟩⟩
          case measure => simp [intOf]; omega
        | false =>
          rw [hq] at hcn HE
          have H2 : Aside0 (sameL x y = false) := ⟨sameL_ne (fun e => by
            have h3 := HE.out.2 (by subst e; rfl)
            cases h3)⟩
          generalize x[i].f0 = x0v at *
          generalize x[i].f1 = x1v at *
          generalize y[i].f0 = y0v at *
          generalize y[i].f1 = y1v at *
          rw [Bool.not_false] at hcn
          clear hq HE
          go_wp2_with fail
          go_region
          go_wp2_with fail
          go_ret
          exact ⟨by rw [H2.out]; rfl, ⟨⟨n0 + 1, rfl⟩⟩⟩
      · obtain rfl : i = n := by omega
        have d1 : decide (i < i) = false := decide_eq_false (by omega)
        have H2 : Aside0 (sameL x y = true) := ⟨(sameL_iff x y).2 (by have := H.out.1; rwa [List.take_of_length_le (by have := HL.out; omega), List.take_of_length_le (by have := HL.out; omega)] at this)⟩
        go_wp2_with fail
        go_ret
        exact ⟨by rw [H2.out]; rfl, H.out.2⟩
  · have H2 : Aside0 (sameL x y = false) := ⟨sameL_ne (fun e => hnm (by rw [← hlx, ← hly, e]))⟩
    have d0 : ((n : Int) != m) = true := by simp; omega
    clear hx hy hlx hly
    go_enter Try.func23, Try.ntmps23
    go_wp2_with fail
    go_ret
    exact ⟨by rw [H2.out]; rfl, Drawn0.refl w⟩
end Go.Proofs.Ytkjjmmgngdpppaa
