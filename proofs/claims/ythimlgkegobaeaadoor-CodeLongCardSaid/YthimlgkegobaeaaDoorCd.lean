/- code.right: may an instruction be. -/
import Derived.Test.YthimlgkegobaeaaDoorCc
namespace Go.Proofs.YthimlgkegobaeaaDoor
open Go.RowKit Go.Shelf Go.Proofs.YthimlgkegobaeaaDoorW.PrintWords Go.Proofs.YthimlgkegobaeaaDoorW.PrintLast Go.Proofs.YthimlgkegobaeaaDoorW.PrintMore
set_option linter.unusedVariables false
set_option linter.unusedSimpArgs false

def regB (u : Bool) (r : Nat) : Bool := r == 0 || (u && decide (r < 8))
def numB (k : Nat) (n size cells players : Int) : Bool :=
  if k = 1 then true else if k = 2 then decide (0 ≤ n) && decide (n < cells) else if k = 3 then decide (0 ≤ n) && decide (n ≤ size) else if k = 4 then decide (0 ≤ n) && decide (n < players)
  else if k = 5 then decide (1 ≤ n) else decide (n = 0)
/-- May an instruction be, among so many? -/
def rightU (u : Use) (a b c : Nat) (n : Int) (m : Nat) (size cells players : Int) : Bool :=
  if u.n = 6 then decide (a ||| b = 0) && (decide (1 ≤ c) && decide (c ≤ 48)) && decide (0 ≤ n) && decide (n + c ≤ cells) && decide (m = 0)
  else numB u.n n size cells players && regB u.a a && regB u.b b && regB u.c c && (u.m || decide (m = 0))
def rightB (op a b c : Nat) (n : Int) (m : Nat) (size cells players : Int) : Bool := decide (op < 26) && rightU (useO op) a b c n m size cells players
theorem register_any (u : Bool) (r : Nat) (hr : r < 256) (w : World) :
    Calls Tryd.prog 66 #[.bool u, .int .u8 r] w fun e w' => e = .returned (.bool (regB u r)) ∧ Below w.heap.size w w' := by
  have h : code_register.f u (r : Int) = some (regB u r) := by
    unfold code_register.f regB
    by_cases e : r = 0
    · subst e; simp
    · rw [if_neg (by omega)]
      cases u with
      | true =>
        have e2 : (r == 0) = false := beq_eq_false_iff_ne.2 e
        rw [if_pos rfl, e2, Bool.false_or, Bool.true_and]; congr 1; rw [decide_eq_decide]; omega
      | false => rw [if_neg (by decide)]; simp [e]
  exact (code_register.calls u _ _ w h).mono fun e w' h => ⟨h.1, h.2.below⟩
set_option maxRecDepth 100000 in
theorem uses_at : ∀ op : Fin 26, ∀ j : Fin 5, (usesK 18)[op.val * 5 + j.val]? = (useCells (useO op.val))[j.val]? := by
  intro op j
  match op with
  | 0 => match j with | 0 => rfl | 1 => rfl | 2 => rfl | 3 => rfl | 4 => rfl
  | 1 => match j with | 0 => rfl | 1 => rfl | 2 => rfl | 3 => rfl | 4 => rfl
  | 2 => match j with | 0 => rfl | 1 => rfl | 2 => rfl | 3 => rfl | 4 => rfl
  | 3 => match j with | 0 => rfl | 1 => rfl | 2 => rfl | 3 => rfl | 4 => rfl
  | 4 => match j with | 0 => rfl | 1 => rfl | 2 => rfl | 3 => rfl | 4 => rfl
  | 5 => match j with | 0 => rfl | 1 => rfl | 2 => rfl | 3 => rfl | 4 => rfl
  | 6 => match j with | 0 => rfl | 1 => rfl | 2 => rfl | 3 => rfl | 4 => rfl
  | 7 => match j with | 0 => rfl | 1 => rfl | 2 => rfl | 3 => rfl | 4 => rfl
  | 8 => match j with | 0 => rfl | 1 => rfl | 2 => rfl | 3 => rfl | 4 => rfl
  | 9 => match j with | 0 => rfl | 1 => rfl | 2 => rfl | 3 => rfl | 4 => rfl
  | 10 => match j with | 0 => rfl | 1 => rfl | 2 => rfl | 3 => rfl | 4 => rfl
  | 11 => match j with | 0 => rfl | 1 => rfl | 2 => rfl | 3 => rfl | 4 => rfl
  | 12 => match j with | 0 => rfl | 1 => rfl | 2 => rfl | 3 => rfl | 4 => rfl
  | 13 => match j with | 0 => rfl | 1 => rfl | 2 => rfl | 3 => rfl | 4 => rfl
  | 14 => match j with | 0 => rfl | 1 => rfl | 2 => rfl | 3 => rfl | 4 => rfl
  | 15 => match j with | 0 => rfl | 1 => rfl | 2 => rfl | 3 => rfl | 4 => rfl
  | 16 => match j with | 0 => rfl | 1 => rfl | 2 => rfl | 3 => rfl | 4 => rfl
  | 17 => match j with | 0 => rfl | 1 => rfl | 2 => rfl | 3 => rfl | 4 => rfl
  | 18 => match j with | 0 => rfl | 1 => rfl | 2 => rfl | 3 => rfl | 4 => rfl
  | 19 => match j with | 0 => rfl | 1 => rfl | 2 => rfl | 3 => rfl | 4 => rfl
  | 20 => match j with | 0 => rfl | 1 => rfl | 2 => rfl | 3 => rfl | 4 => rfl
  | 21 => match j with | 0 => rfl | 1 => rfl | 2 => rfl | 3 => rfl | 4 => rfl
  | 22 => match j with | 0 => rfl | 1 => rfl | 2 => rfl | 3 => rfl | 4 => rfl
  | 23 => match j with | 0 => rfl | 1 => rfl | 2 => rfl | 3 => rfl | 4 => rfl
  | 24 => match j with | 0 => rfl | 1 => rfl | 2 => rfl | 3 => rfl | 4 => rfl
  | 25 => match j with | 0 => rfl | 1 => rfl | 2 => rfl | 3 => rfl | 4 => rfl
  | ⟨k + 26, h⟩ => exact absurd h (by omega)
theorem useO_n : ∀ op, op < 26 → (useO op).n ≤ 6 := by decide
theorem regB_false (r : Nat) : regB false r = decide (r = 0) := by
  unfold regB
  by_cases e : r = 0
  · subst e; rfl
  · simp [e]
theorem int_zero (m : Nat) : ((m : Int) == 0) = decide (m = 0) := by
  by_cases e : m = 0
  · subst e; rfl
  · rw [decide_eq_false e]; exact beq_eq_false_iff_ne.2 (by omega)
theorem or8 {a b : Nat} (ha : a < 256) (hb : b < 256) : bits .or .u8 (a : Int) (b : Int) = ((a ||| b : Nat) : Int) := by
  show IntKind.u8.wrap ((BitVec.ofInt 8 (a : Int) ||| BitVec.ofInt 8 (b : Int)).toNat : Int) = _
  have e1 : BitVec.ofInt 8 (a : Int) = BitVec.ofNat 8 a := by simp
  have e2 : BitVec.ofInt 8 (b : Int) = BitVec.ofNat 8 b := by simp
  rw [e1, e2, BitVec.toNat_or, BitVec.toNat_ofNat, BitVec.toNat_ofNat, Nat.mod_eq_of_lt (show a < 2 ^ 8 by omega), Nat.mod_eq_of_lt (show b < 2 ^ 8 by omega), IntKind.wrap_u8]
  have := Nat.or_lt_two_pow (n := 8) (x := a) (y := b) (by omega) (by omega)
  omega
attribute [local irreducible] usesK
set_option maxHeartbeats 16000000 in
set_option maxRecDepth 100000 in
theorem right_any (op a b c : Nat) (n : Int) (m : Nat) (size cells players : Int) (h0 : op < 256) (h1 : a < 256) (h2 : b < 256) (h3 : c < 256) (h4 : -2147483648 ≤ n ∧ n < 2147483648) (h5 : m < 4294967296) (w0 : World) :
    Calls Tryd.prog 39 #[.agg #[.int .u8 op, .int .u8 a, .int .u8 b, .int .u8 c, .int .i32 n, .int .u32 m], .agg (usesK 18), .int .i64 size, .int .i64 cells, .int .i64 players] w0 fun e w' => e = .returned (.bool (rightB op a b c n m size cells players)) ∧ Below w0.heap.size w0 w' := by
  go_enter Tryd.func39, Tryd.ntmps39
  by_cases h26 : op < 26
  · have hn6 := useO_n op h26
    have hu := fun j (hj : j < 5) => uses_at ⟨op, h26⟩ ⟨j, hj⟩
    have HR : Aside0 (rightB op a b c n m size cells players = rightU (useO op) a b c n m size cells players) := ⟨by unfold rightB; rw [decide_eq_true h26, Bool.true_and]⟩
    obtain ⟨u, hue⟩ : ∃ u, useO op = u := ⟨_, rfl⟩
    rw [hue] at hn6 hu HR
    obtain ⟨ua, ub, uc, un, um⟩ := u
    obtain ⟨A, hA⟩ : ∃ A : Array Value, A = #[.int .u8 op, .int .u8 a, .int .u8 b, .int .u8 c, .int .i32 n, .int .u32 m] := ⟨_, rfl⟩
    have hcu : ∀ j, ((w0.alloc (.cells #[.int .u8 op, .int .u8 a, .int .u8 b, .int .u8 c, .int .i32 n, .int .u32 m] 25)).alloc (.cells (usesK 18) 79)).cell? ⟨w0.heap.size + 1, j, none⟩ = (usesK 18)[j]? := by
      intro j
      have := World.alloc_heap_new (w0.alloc (.cells #[.int .u8 op, .int .u8 a, .int .u8 b, .int .u8 c, .int .i32 n, .int .u32 m] 25)) (.cells (usesK 18) 79)
      simp only [World.size_alloc] at this
      exact cell_of_row _ _ _ _ _ _ this
    have c0 := (hcu (op * 5)).trans (hu 0 (by omega))
    have c1 := (hcu (op * 5 + 1)).trans (hu 1 (by omega))
    have c2 := (hcu (op * 5 + 2)).trans (hu 2 (by omega))
    have c3 := (hcu (op * 5 + 3)).trans (hu 3 (by omega))
    have c4 := (hcu (op * 5 + 4)).trans (hu 4 (by omega))
    replace c0 : _ = some (Value.bool ua) := c0
    replace c1 : _ = some (Value.bool ub) := c1
    replace c2 : _ = some (Value.bool uc) := c2
    replace c3 : _ = some (Value.int .u8 (un : Int)) := c3
    replace c4 : _ = some (Value.bool um) := c4
    clear hcu hu hue hA A
    have HK : Aside0 (∀ z : World, Below (((w0.alloc (.cells #[.int .u8 op, .int .u8 a, .int .u8 b, .int .u8 c, .int .i32 n, .int .u32 m] 25)).alloc (.cells (usesK 18) 79)).alloc (.cells #[.bool ua, .bool ub, .bool uc, .int .u8 (un : Int), .bool um] 78)).heap.size (((w0.alloc (.cells #[.int .u8 op, .int .u8 a, .int .u8 b, .int .u8 c, .int .i32 n, .int .u32 m] 25)).alloc (.cells (usesK 18) 79)).alloc (.cells #[.bool ua, .bool ub, .bool uc, .int .u8 (un : Int), .bool um] 78)) z → z.cell? ⟨w0.heap.size, 1, none⟩ = some (.int .u8 a) ∧ z.cell? ⟨w0.heap.size, 2, none⟩ = some (.int .u8 b) ∧ z.cell? ⟨w0.heap.size, 3, none⟩ = some (.int .u8 c) ∧ z.cell? ⟨w0.heap.size, 5, none⟩ = some (.int .u32 m) ∧ z.cell? ⟨w0.heap.size + 1 + 1, 1, none⟩ = some (.bool ub) ∧ z.cell? ⟨w0.heap.size + 1 + 1, 2, none⟩ = some (.bool uc) ∧ z.cell? ⟨w0.heap.size + 1 + 1, 4, none⟩ = some (.bool um)) := ⟨fun z hz => by
      have HP := ((((Hp.start w0).alloc (.cells #[.int .u8 op, .int .u8 a, .int .u8 b, .int .u8 c, .int .i32 n, .int .u32 m] 25)).allocAt (.cells (usesK 18) 79) (w0.heap.size + 1) (by simp)).allocAt (.cells #[.bool ua, .bool ub, .bool uc, .int .u8 (un : Int), .bool um] 78) (w0.heap.size + 1 + 1) (by simp)).call hz
      have x0 := HP.get (i := 2) rfl
      have x2 := HP.get (i := 0) rfl
      exact ⟨blk_cell x0 1, blk_cell x0 2, blk_cell x0 3, blk_cell x0 5, blk_cell x2 1, blk_cell x2 2, blk_cell x2 4⟩⟩
    have HB3 := Aside0.mk (Below.refl (((w0.alloc (.cells #[.int .u8 op, .int .u8 a, .int .u8 b, .int .u8 c, .int .i32 n, .int .u32 m] 25)).alloc (.cells (usesK 18) 79)).alloc (.cells #[.bool ua, .bool ub, .bool uc, .int .u8 (un : Int), .bool um] 78)).heap.size (((w0.alloc (.cells #[.int .u8 op, .int .u8 a, .int .u8 b, .int .u8 c, .int .i32 n, .int .u32 m] 25)).alloc (.cells (usesK 18) 79)).alloc (.cells #[.bool ua, .bool ub, .bool uc, .int .u8 (un : Int), .bool um] 78)))
    have HB0 : Aside0 (Below w0.heap.size w0 (((w0.alloc (.cells #[.int .u8 op, .int .u8 a, .int .u8 b, .int .u8 c, .int .i32 n, .int .u32 m] 25)).alloc (.cells (usesK 18) 79)).alloc (.cells #[.bool ua, .bool ub, .bool uc, .int .u8 (un : Int), .bool um] 78))) := ⟨below_alloc (below_alloc (below_alloc (Below.refl _ _) _) _) _⟩
    have hor := or8 h1 h2
    have horl : a ||| b < 256 := Nat.or_lt_two_pow (n := 8) (x := a) (y := b) (by omega) (by omega)
    obtain ⟨ab, hab⟩ : ∃ x, a ||| b = x := ⟨_, rfl⟩
    rw [hab] at hor horl
    have HAB := Aside0.mk hab
    clear hab
    obtain ⟨nz, hnz⟩ : ∃ x, (n == 0) = x := ⟨_, rfl⟩
    have HNZ : Aside0 (decide (n = 0) = nz) := ⟨by rw [← hnz]; rfl⟩
    have hk : un = 0 ∨ un = 1 ∨ un = 2 ∨ un = 3 ∨ un = 4 ∨ un = 5 ∨ un = 6 := by have : un ≤ 6 := hn6; omega
    rcases hk with rfl | rfl | rfl | rfl | rfl | rfl | rfl
    all_goals go_wp2_with (first | (go_at_call 66; refine (register_any _ _ (by omega) _).mono ?_; rintro e w' ⟨rfl, hb⟩; replace HB3 := Aside0.mk (bel_t8 HB3.out hb); clear hb; obtain ⟨d1, d2, d3, d5, e1, e2, e4⟩ := HK.out _ HB3.out))
    all_goals clear c0 c1 c2 c4
    all_goals go_ret
    all_goals rw [HR.out]
    all_goals refine ⟨?_, bel_t8 HB0.out HB3.out⟩
    all_goals clear HK HB3 HB0 HR
    all_goals (try clear d1 d2 d3 d5 e1 e2 e4)
    all_goals (clear c3 hor)
    all_goals (first | (simp [rightU, numB, HAB.out, HNZ.out, int_zero, *]; done) | (simp [rightU, numB, HAB.out, HNZ.out, int_zero, *]; intros; omega) | (simp_all [rightU, numB, HAB.out, HNZ.out, int_zero, regB_false]; done) | (simp_all [rightU, numB, HAB.out, HNZ.out, int_zero, regB_false]; intros; omega) | skip)
  · have HR : Aside0 (rightB op a b c n m size cells players = false) := ⟨by unfold rightB; rw [decide_eq_false h26, Bool.false_and]⟩
    have hb : 25 < op := by omega
    go_wp2_with fail
    go_ret
    rw [HR.out]
    exact ⟨rfl, below_alloc (below_alloc (Below.refl _ _) _) _⟩
end Go.Proofs.YthimlgkegobaeaaDoor
