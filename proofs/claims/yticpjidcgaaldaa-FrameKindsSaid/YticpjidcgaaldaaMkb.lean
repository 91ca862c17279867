/- The parts of this proof, one behind the other: contracts of the functions, plain laws, the walk. -/
import Derived.Test.YticpjidcgaaldaaMka
import Derived.Test.YticpjidcgaaldaaProg
import Derived.Below
import Derived.Deep.Draws
import Derived.Deep.AppendLies
import Derived.Maps.AppendAt
import Derived.OwnWalk
import Derived.Laws.BytesArg
import Derived.Laws.MakeOwn
import Derived.Laws.OwnMore
import Derived.Deep.OwnRows
import Derived.Tactics
import Derived.Lib.ConvBytes
import Derived.Laws.Slices
import Derived.WalkKit
import Derived.KernelRfl
import Derived.RowKit3
import Derived.Deep.LoopGhost
import Derived.Deep.QuietTactic
import Derived.BigQuiet
import Derived.WideLaws
import Derived.Deep.DeepCutAuto
import Derived.Deep.CutBlock
import Derived.Deep.RegionHeld3
import Derived.Laws.Rows
import Derived.Lib.AppendStr
import Derived.ArgAppend
import Derived.Laws.IdiomCopy
import Derived.OrdersHeld
import Derived.Laws.BitsLemmas
import Derived.RowKit
import Derived.Test.YticpjidcgaaldaaWWords
import Derived.Test.YticpjidcgaaldaaWLast
import Derived.Test.YticpjidcgaaldaaWTab
import Derived.Test.YticpjidcgaaldaaWFour
import Derived.Test.YticpjidcgaaldaaWQPut
import Derived.Test.YticpjidcgaaldaaWApart
import Derived.Test.YticpjidcgaaldaaWArr
import Derived.Test.YticpjidcgaaldaaWZeros
import Derived.Test.YticpjidcgaaldaaWFoot
import Derived.Test.YticpjidcgaaldaaWKept
import Derived.Test.YticpjidcgaaldaaWShare
import Derived.Test.YticpjidcgaaldaaWN
import Derived.Test.YticpjidcgaaldaaWFootNe
import Derived.Test.YticpjidcgaaldaaWAt
import Derived.Test.YticpjidcgaaldaaWEqStruct
import Derived.Test.YticpjidcgaaldaaWRepsOne
import Derived.Test.YticpjidcgaaldaaWInv
import Derived.Test.YticpjidcgaaldaaWInvWords
import Derived.Test.YticpjidcgaaldaaWGuard
import Derived.Test.YticpjidcgaaldaaWNEv
import Derived.Test.YticpjidcgaaldaaWMore
import Derived.Lib.LazyBuf
namespace Go.Proofs.Yticpjidcgaaldaa
open Go.RowKit Go.Proofs.YticpjidcgaaldaaW.PrintWords Go.Proofs.YticpjidcgaaldaaW.PrintLast Go.Proofs.YticpjidcgaaldaaW.PrintMore
set_option linter.unusedVariables false
set_option linter.unusedSimpArgs false

/-- A number, its lowest byte first. -/
def leN : List Int → Int
  | [] => 0
  | b :: l => b + 256 * leN l
/-- What Half, Word tell. -/
def eFix (k : Nat) (l : List Int) (bad : Bool) : Int × List Int × Bool := if bad = true ∨ l.length < k then (0, [], true) else (leN (l.take k), l.drop k, false)

theorem EyTo.drew {w w1 : World} {g B : Nat} {l : List Int} {b : Bool} (h : EyTo w w1 g B l b) : EyTo w w1.drew g B l b :=
  ⟨h.1, h.2.1, h.2.2.drew⟩
theorem or_at (i x y : Nat) (hx : x < 2 ^ i) : x ||| y * 2 ^ i = x + 2 ^ i * y := by
  rw [Nat.or_comm, Nat.mul_comm, ← Nat.two_pow_add_eq_or_of_lt hx, Nat.add_comm]
theorem word_v (x y z t : Nat) (hx : x < 256) (hy : y < 256) (hz : z < 256) (ht : t < 256) : bits .or .u32 (bits .or .u32 (bits .or .u32 (x : Int) ((y : Int) * 256)) ((z : Int) * 65536)) ((t : Int) * 16777216) = ((x + 256 * (y + 256 * (z + 256 * t)) : Nat) : Int) := by
  rw [show (y : Int) * 256 = ((y * 2 ^ 8 : Nat) : Int) by omega, u32_or_nat _ _ (by omega) (by omega), or_at 8 x y (by omega),
    show (z : Int) * 65536 = ((z * 2 ^ 16 : Nat) : Int) by omega, u32_or_nat _ _ (by omega) (by omega), or_at 16 _ z (by omega),
    show (t : Int) * 16777216 = ((t * 2 ^ 24 : Nat) : Int) by omega, u32_or_nat _ _ (by omega) (by omega), or_at 24 _ t (by omega)]
  omega

set_option maxHeartbeats 1000000 in
theorem eword_any (g B : Nat) (l : List Int) (bad : Bool) (w : World) (hk : Ey w g B l bad) (hb : Bytes l) :
    Calls Try.prog 45 #[.pointer (some ⟨g, 0, none⟩)] w fun e w' => e = .returned (.int .u32 (eFix 4 l bad).1) ∧ EyTo w w' g B (eFix 4 l bad).2.1 (eFix 4 l bad).2.2 := by
  unfold eFix
  by_cases hc : bad = true ∨ l.length < 4
  · rw [if_pos hc]
    have KEY := Aside0.mk (take_no g B l bad 4 w hk hc)
    have hz := fun w => nz_slice none 0 0 w
    clear hk hc hb
    go_enter Try.func45, Try.ntmps45
    go_wp2_with fail
    refine KEY.out.mono ?_
    rintro e w1 ⟨rfl, h⟩
    have H := Aside0.mk h
    clear h KEY
    go_wp2_with fail
    go_ret
    exact ⟨rfl, H.out⟩
  · rw [if_neg hc]
    have hbb : bad = false := by cases bad; rfl; exact absurd (.inl rfl) hc
    subst hbb
    have hl : 4 ≤ l.length := by rcases Nat.lt_or_ge l.length 4 with h | h; exact absurd (.inr h) hc; exact h
    have KEY := Aside0.mk (take_ok g B l 4 w hk hl)
    have hz := fun a w => nz_slice (some a) 4 4 w
    obtain ⟨x, y, z, t, hxy, hx, hy, hz0, ht⟩ : ∃ x y z t : Nat, l.take 4 = [(x : Int), (y : Int), (z : Int), (t : Int)] ∧ x < 256 ∧ y < 256 ∧ z < 256 ∧ t < 256 := by
      match l, hl, hb with
      | a :: b :: c :: d :: t, _, hb =>
        have h1 := hb a (by simp)
        have h2 := hb b (by simp)
        have h3 := hb c (by simp)
        have h4 := hb d (by simp)
        exact ⟨a.toNat, b.toNat, c.toNat, d.toNat, by simp; omega, by omega, by omega, by omega, by omega⟩
    have HL := Aside0.mk hxy
    have HV : Aside0 (leN (l.take 4) = ((x + 256 * (y + 256 * (z + 256 * t)) : Nat) : Int)) := ⟨by rw [hxy]; simp [leN]⟩
    rw [HV.out]
    have hx' : (x : Int) ≤ 255 := by omega
    have hy' : (y : Int) ≤ 255 := by omega
    have hz' : (z : Int) ≤ 255 := by omega
    have ht' : (t : Int) ≤ 255 := by omega
    have HE := Aside0.mk (word_v x y z t hx hy hz0 ht)
    clear hk hc hl hb hxy hx hy hz0 ht
    generalize l.drop 4 = ld at *
    go_enter Try.func45, Try.ntmps45
    go_wp2_with fail
    refine KEY.out.mono ?_
    rintro e w1 ⟨A', rfl, hC, h⟩
    rw [HL.out] at hC
    obtain ⟨ad, rfl, c0⟩ := int_at hC 0 (by simp)
    obtain ⟨ad', e', c1⟩ := int_at hC 1 (by simp)
    obtain rfl := Option.some.inj e'
    obtain ⟨ad', e', c2⟩ := int_at hC 2 (by simp)
    obtain rfl := Option.some.inj e'
    obtain ⟨ad', e', c3⟩ := int_at hC 3 (by simp)
    obtain rfl := Option.some.inj e'
    rw [List.getElem_cons_zero, add0] at c0
    rw [List.getElem_cons_succ, List.getElem_cons_zero, show ad.add 1 = ⟨ad.block, ad.off + 1, none⟩ from rfl] at c1
    rw [List.getElem_cons_succ, List.getElem_cons_succ, List.getElem_cons_zero, show ad.add 2 = ⟨ad.block, ad.off + 2, none⟩ from rfl] at c2
    rw [List.getElem_cons_succ, List.getElem_cons_succ, List.getElem_cons_succ, List.getElem_cons_zero, show ad.add 3 = ⟨ad.block, ad.off + 3, none⟩ from rfl] at c3
    have H := Aside0.mk h
    clear h KEY hC
    go_wp2_with fail
    go_region
    go_wp2_with fail
    rw [HE.out]
    go_ret
    exact ⟨rfl, H.out.drew⟩
end Go.Proofs.Yticpjidcgaaldaa

namespace Go.Proofs.Yticpjidcgaaldaa
open Go.RowKit Go.Proofs.YticpjidcgaaldaaW.PrintWords Go.Proofs.YticpjidcgaaldaaW.PrintLast Go.Proofs.YticpjidcgaaldaaW.PrintMore
set_option linter.unusedVariables false
set_option linter.unusedSimpArgs false

/-- Row i of what stands behind the head: its place, its cell. -/
def rowP (r : List Int) (i : Nat) : Int := (r.drop (9 * i)).headD 0
def rowC (r : List Int) (i : Nat) : S59 := ⟨wrap32 (leN ((r.drop (9 * i + 1)).take 4)), leN ((r.drop (9 * i + 5)).take 4)⟩
def pL (r : List Int) (k : Nat) : List Int := (List.range k).map (rowP r)
def cL (r : List Int) (k : Nat) : List S59 := (List.range k).map (rowC r)
theorem pL_succ (r : List Int) (k : Nat) : pL r (k + 1) = pL r k ++ [rowP r k] := by unfold pL; rw [List.range_succ, List.map_append]; rfl
theorem cL_succ (r : List Int) (k : Nat) : cL r (k + 1) = cL r k ++ [rowC r k] := by unfold cL; rw [List.range_succ, List.map_append]; rfl
theorem pL_len (r : List Int) (k : Nat) : (pL r k).length = k := by simp [pL]
theorem cL_len (r : List Int) (k : Nat) : (cL r k).length = k := by simp [cL]
/-- How many rows the head tells. -/
def cntD (q : List Int) : Nat := ((q.drop 8).headD 0).toNat
def okD (q : List Int) : Bool := decide (9 ≤ q.length ∧ q.length = 9 + 9 * cntD q) && risB (-1) (pL (q.drop 9) (cntD q))
theorem leN_bd : ∀ {l : List Int}, Bytes l → 0 ≤ leN l ∧ leN l < 256 ^ l.length
  | [], _ => by simp [leN]
  | b :: l, h => by
    have h1 := h b List.mem_cons_self
    have h2 := leN_bd (l := l) (fun x hx => h x (List.mem_cons_of_mem _ hx))
    have : (256 : Int) ^ (l.length + 1) = 256 ^ l.length * 256 := by rw [Int.pow_succ]
    simp only [leN, List.length_cons]
    rw [this]
    omega
theorem leN4 {l : List Int} (h : Bytes l) : U32 (leN (l.take 4)) := by
  have h1 := leN_bd (h.take 4)
  have h2 : (256 : Int) ^ (l.take 4).length ≤ 4294967296 := by
    have : (l.take 4).length ≤ 4 := List.length_take_le _ _
    have h3 : ∀ k : Nat, k ≤ 4 → (256 : Int) ^ k ≤ 4294967296 := fun k hk => by
      match k, hk with
      | 0, _ => decide
      | 1, _ => decide
      | 2, _ => decide
      | 3, _ => decide
      | 4, _ => decide
    exact h3 _ this
  unfold U32; omega
theorem Bytes.head {l : List Int} (h : Bytes l) : 0 ≤ l.headD 0 ∧ l.headD 0 < 256 := by
  cases l with
  | nil => simp
  | cons a t => exact h a List.mem_cons_self
/-- An eye on its way through the rows: what is left, what was told. -/
def EyP (q : List Int) (i : Nat) (l : List Int) (bad : Bool) (P : List Int) (C : List S59) : Prop :=
  P.length = i ∧ C.length = i ∧ Bytes l ∧ Bytes P ∧ ((bad = false ∧ l = q.drop (9 + 9 * i) ∧ 9 + 9 * i ≤ q.length ∧ P = pL (q.drop 9) i ∧ C = cL (q.drop 9) i) ∨ (bad = true ∧ l = [] ∧ q.length < 9 + 9 * i))
theorem eByte_b {l : List Int} {bad : Bool} (h : Bytes l) : (0 ≤ (eByte l bad).1 ∧ (eByte l bad).1 < 256) ∧ Bytes (eByte l bad).2.1 := by
  unfold eByte
  split
  · exact ⟨by simp, Bytes.nil⟩
  · exact ⟨h.head, h.drop 1⟩
theorem eFix_b {l : List Int} {bad : Bool} (k : Nat) (h : Bytes l) : Bytes (eFix k l bad).2.1 := by
  unfold eFix
  split
  · exact Bytes.nil
  · exact h.drop k
theorem eByte_bad (l : List Int) : eByte l true = (0, [], true) := by unfold eByte; rw [if_pos (.inl rfl)]
theorem eFix_bad (k : Nat) (l : List Int) : eFix k l true = (0, [], true) := by unfold eFix; rw [if_pos (.inl rfl)]
theorem eByte_good {l : List Int} (h : 1 ≤ l.length) : eByte l false = (l.headD 0, l.drop 1, false) := by unfold eByte; rw [if_neg (fun q => by rcases q with q | q; cases q; omega)]
theorem eByte_short {l : List Int} (h : l.length < 1) : eByte l false = (0, [], true) := by unfold eByte; rw [if_pos (.inr h)]
theorem eFix_good {k : Nat} {l : List Int} (h : k ≤ l.length) : eFix k l false = (leN (l.take k), l.drop k, false) := by unfold eFix; rw [if_neg (fun q => by rcases q with q | q; cases q; omega)]
theorem eFix_short {k : Nat} {l : List Int} (h : l.length < k) : eFix k l false = (0, [], true) := by unfold eFix; rw [if_pos (.inr h)]
/-- The head. -/
theorem head_step {q : List Int} (hq : Bytes q) {t h n : Int} {l1 l2 l3 : List Int} {b1 b2 b3 : Bool} (e1 : eFix 4 q false = (t, l1, b1)) (e2 : eFix 4 l1 b1 = (h, l2, b2)) (e3 : eByte l2 b2 = (n, l3, b3)) :
    EyP q 0 l3 b3 [] [] ∧ 0 ≤ n ∧ n < 256 ∧ (9 ≤ q.length → t = leN (q.take 4) ∧ h = leN ((q.drop 4).take 4) ∧ n.toNat = cntD q) ∧ (q.length < 9 → n = 0) := by
  have hB3 : Bytes l3 ∧ 0 ≤ n ∧ n < 256 := by
    have h1 := eFix_b (bad := false) 4 hq
    rw [e1] at h1
    have h2 := eFix_b (bad := b1) 4 h1
    rw [e2] at h2
    have h3 := eByte_b (bad := b2) h2
    rw [e3] at h3
    exact ⟨h3.2, h3.1⟩
  by_cases h9 : 9 ≤ q.length
  · rw [eFix_good (by omega)] at e1
    simp only [Prod.mk.injEq] at e1
    obtain ⟨rfl, rfl, rfl⟩ := e1
    rw [eFix_good (by rw [List.length_drop]; omega), List.drop_drop] at e2
    simp only [Prod.mk.injEq] at e2
    obtain ⟨rfl, rfl, rfl⟩ := e2
    rw [eByte_good (by rw [List.length_drop]; omega), List.drop_drop] at e3
    simp only [Prod.mk.injEq] at e3
    obtain ⟨rfl, rfl, rfl⟩ := e3
    exact ⟨⟨rfl, rfl, hB3.1, Bytes.nil, .inl ⟨rfl, rfl, by omega, rfl, rfl⟩⟩, hB3.2.1, hB3.2.2, fun _ => ⟨rfl, rfl, rfl⟩, fun h => by omega⟩
  · have bad3 : b3 = true ∧ l3 = [] ∧ n = 0 := by
      by_cases h4 : 4 ≤ q.length
      · rw [eFix_good h4] at e1
        simp only [Prod.mk.injEq] at e1
        obtain ⟨rfl, rfl, rfl⟩ := e1
        by_cases h8 : 8 ≤ q.length
        · rw [eFix_good (by rw [List.length_drop]; omega)] at e2
          simp only [Prod.mk.injEq] at e2
          obtain ⟨rfl, rfl, rfl⟩ := e2
          rw [eByte_short (by simp; omega)] at e3
          simp only [Prod.mk.injEq] at e3
          exact ⟨e3.2.2.symm, e3.2.1.symm, e3.1.symm⟩
        · rw [eFix_short (by rw [List.length_drop]; omega)] at e2
          simp only [Prod.mk.injEq] at e2
          obtain ⟨rfl, rfl, rfl⟩ := e2
          rw [eByte_bad] at e3
          simp only [Prod.mk.injEq] at e3
          exact ⟨e3.2.2.symm, e3.2.1.symm, e3.1.symm⟩
      · rw [eFix_short (by omega)] at e1
        simp only [Prod.mk.injEq] at e1
        obtain ⟨rfl, rfl, rfl⟩ := e1
        rw [eFix_bad] at e2
        simp only [Prod.mk.injEq] at e2
        obtain ⟨rfl, rfl, rfl⟩ := e2
        rw [eByte_bad] at e3
        simp only [Prod.mk.injEq] at e3
        exact ⟨e3.2.2.symm, e3.2.1.symm, e3.1.symm⟩
    obtain ⟨rfl, rfl, rfl⟩ := bad3
    exact ⟨⟨rfl, rfl, Bytes.nil, Bytes.nil, .inr ⟨rfl, rfl, by omega⟩⟩, by omega, by omega, fun h => absurd h h9, fun _ => rfl⟩
/-- One row. -/
theorem row_step {q : List Int} {i : Nat} {l : List Int} {bad : Bool} {P : List Int} {C : List S59} (H : EyP q i l bad P C) {b v m : Int} {l1 l2 l3 : List Int} {b1 b2 b3 : Bool} (e1 : eByte l bad = (b, l1, b1)) (e2 : eFix 4 l1 b1 = (v, l2, b2)) (e3 : eFix 4 l2 b2 = (m, l3, b3)) :
    EyP q (i + 1) l3 b3 (P ++ [b]) (C ++ [⟨wrap32 v, m⟩]) := by
  obtain ⟨hP, hC, hl, hBP, hs⟩ := H
  have hb : (0 ≤ b ∧ b < 256) ∧ Bytes l1 := by have := eByte_b (bad := bad) hl; rw [e1] at this; exact this
  have h2 : Bytes l2 := by have := eFix_b (bad := b1) 4 hb.2; rw [e2] at this; exact this
  have h3 : Bytes l3 := by have := eFix_b (bad := b2) 4 h2; rw [e3] at this; exact this
  refine ⟨by simp [hP], by simp [hC], h3, hBP.append (fun x hx => by obtain rfl := List.mem_singleton.1 hx; exact hb.1), ?_⟩
  rcases hs with ⟨rfl, hl0, hle, hPe, hCe⟩ | ⟨rfl, rfl, hlt⟩
  · have hlen : l.length = q.length - (9 + 9 * i) := by rw [hl0, List.length_drop]
    by_cases h9 : 9 ≤ l.length
    · left
      rw [eByte_good (by omega)] at e1
      simp only [Prod.mk.injEq] at e1
      obtain ⟨rfl, rfl, rfl⟩ := e1
      rw [eFix_good (by rw [List.length_drop]; omega), List.drop_drop] at e2
      simp only [Prod.mk.injEq] at e2
      obtain ⟨rfl, rfl, rfl⟩ := e2
      rw [eFix_good (by rw [List.length_drop]; omega), List.drop_drop] at e3
      simp only [Prod.mk.injEq] at e3
      obtain ⟨rfl, rfl, rfl⟩ := e3
      refine ⟨rfl, ?_, by omega, ?_, ?_⟩
      · rw [hl0, List.drop_drop]; congr 1
      · rw [pL_succ, hPe, hl0]
        unfold rowP
        rw [List.drop_drop]
      · rw [cL_succ, hCe, hl0]
        unfold rowC
        simp only [List.drop_drop]
        congr 4 <;> omega
    · right
      have fin : b3 = true ∧ l3 = [] := by
        by_cases h1 : 1 ≤ l.length
        · rw [eByte_good h1] at e1
          simp only [Prod.mk.injEq] at e1
          obtain ⟨rfl, rfl, rfl⟩ := e1
          by_cases h5 : 5 ≤ l.length
          · rw [eFix_good (by rw [List.length_drop]; omega)] at e2
            simp only [Prod.mk.injEq] at e2
            obtain ⟨rfl, rfl, rfl⟩ := e2
            rw [eFix_short (by simp; omega)] at e3
            simp only [Prod.mk.injEq] at e3
            exact ⟨e3.2.2.symm, e3.2.1.symm⟩
          · rw [eFix_short (by rw [List.length_drop]; omega)] at e2
            simp only [Prod.mk.injEq] at e2
            obtain ⟨rfl, rfl, rfl⟩ := e2
            rw [eFix_bad] at e3
            simp only [Prod.mk.injEq] at e3
            exact ⟨e3.2.2.symm, e3.2.1.symm⟩
        · rw [eByte_short (by omega)] at e1
          simp only [Prod.mk.injEq] at e1
          obtain ⟨rfl, rfl, rfl⟩ := e1
          rw [eFix_bad] at e2
          simp only [Prod.mk.injEq] at e2
          obtain ⟨rfl, rfl, rfl⟩ := e2
          rw [eFix_bad] at e3
          simp only [Prod.mk.injEq] at e3
          exact ⟨e3.2.2.symm, e3.2.1.symm⟩
      exact ⟨fin.1, fin.2, by omega⟩
  · right
    rw [eByte_bad] at e1
    simp only [Prod.mk.injEq] at e1
    obtain ⟨rfl, rfl, rfl⟩ := e1
    rw [eFix_bad] at e2
    simp only [Prod.mk.injEq] at e2
    obtain ⟨rfl, rfl, rfl⟩ := e2
    rw [eFix_bad] at e3
    simp only [Prod.mk.injEq] at e3
    exact ⟨e3.2.2.symm, e3.2.1.symm, by omega⟩
end Go.Proofs.Yticpjidcgaaldaa

namespace Go.Proofs.Yticpjidcgaaldaa
open Go.RowKit Go.Proofs.YticpjidcgaaldaaW.PrintWords Go.Proofs.YticpjidcgaaldaaW.PrintLast Go.Proofs.YticpjidcgaaldaaW.PrintMore
set_option linter.unusedVariables false
set_option linter.unusedSimpArgs false

theorem R_eye {α : Type} {d : Kd α} {e B ge : Nat} {w w' : World} {v : Value} {xs : List α} (h : d.R e w B (fun _ => True) v xs) (hk : KeepBut w w' ge none) (hg : ge < B) : d.R e w' B (fun _ => True) v xs :=
  Kd.R_mono (Kd.R_step (Kd.R_bound h) (fun k hk2 hlt => hk.2 k hlt (by have := hk2.2.1; omega) (by simp))) (fun _ _ => trivial)
/-- The state of the loop: the eye, the struct, its rows. -/
def PSt (B0 B ge gd : Nat) (w0 w : World) (tk hs : Int) (l : List Int) (bad : Bool) (vP vC uP uC : Value) (P : List Int) (C : List S59) : Prop :=
  Ey w ge B l bad ∧ Hp B0 w0 w [(gd, .cells #[.int .u32 tk, .int .u32 hs, vP, vC] 26 (0, 0)), (B0, .cells #[.int .u32 0, .int .u32 0, .slice none 0 0, .slice none 0 0] 26 (0, 0))] [] ∧
    (Kd.int .u8).R 5 w B (fun _ => True) uP P ∧ k59.R 59 w B (fun _ => True) uC C ∧ B ≤ gd ∧ B0 ≤ ge ∧ ge < B ∧ B0 < ge
section
variable {B0 B ge gd : Nat} {w0 w w' : World} {tk hs : Int} {l l' : List Int} {bad bad' : Bool} {vP vC uP uC u : Value} {P : List Int} {C : List S59}
theorem PSt.le (h : PSt B0 B ge gd w0 w tk hs l bad vP vC uP uC P C) : B ≤ w.heap.size := Nat.le_trans h.2.2.2.2.1 (Nat.le_of_lt (h.2.1.lt (i := 0) rfl))
theorem PSt.below (h : PSt B0 B ge gd w0 w tk hs l bad vP vC uP uC P C) (hb : Below w.heap.size w w') : PSt B0 B ge gd w0 w' tk hs l bad vP vC uP uC P C :=
  ⟨h.1.below (hb.mono h.le) h.le, h.2.1.call hb, Kd.R_below h.2.2.1 hb, Kd.R_below h.2.2.2.1 hb, h.2.2.2.2⟩
theorem PSt.eye (h : PSt B0 B ge gd w0 w tk hs l bad vP vC uP uC P C) (he : EyTo w w' ge B l' bad') : PSt B0 B ge gd w0 w' tk hs l' bad' vP vC uP uC P C := by
  obtain ⟨h1, h2, h3, h4, h5, h6, h7, h8⟩ := h
  have hg := h2.lt (i := 0) rfl
  refine ⟨he.1, h2.rows (r1 := some ge) (r2 := none) (he.2.2.mono h6) ((he.2.1.2 gd hg (by omega) (by simp)).trans (h2.get (i := 0) rfl)) (fun k hk _ hn _ => he.2.1.2 k hk (fun e => hn (by rw [e])) (by simp)) (fun p hp => ?_), R_eye h3 he.2.1 h7, R_eye h4 he.2.1 h7, h5, h6, h7, h8⟩
  obtain rfl := List.mem_singleton.1 hp
  exact ⟨fun e => by injection e with e; omega, by simp⟩
theorem PSt.cellP (h : PSt B0 B ge gd w0 w tk hs l bad vP vC uP uC P C) : w.cell? ⟨gd, 2, none⟩ = some vP := blk_cell (h.2.1.get (i := 0) rfl) 2
theorem PSt.cellC (h : PSt B0 B ge gd w0 w tk hs l bad vP vC uP uC P C) : w.cell? ⟨gd, 3, none⟩ = some vC := blk_cell (h.2.1.get (i := 0) rfl) 3
/-- A row has grown. -/
theorem PSt.rowP {P' : List Int} (h : PSt B0 B ge gd w0 w tk hs l bad vP vC uP uC P C) (hg : w.grownBy w' uP.ownBlock) (hr : (Kd.int .u8).R 5 w' B (fun _ => True) u P') : PSt B0 B ge gd w0 w' tk hs l bad vP vC u uC P' C := by
  obtain ⟨h1, h2, h3, h4, h5, h6, h7, h8⟩ := h
  have hle : B ≤ w.heap.size := Nat.le_trans h5 (Nat.le_of_lt (h2.lt (i := 0) rfl))
  have hbase : ∀ k, uP.ownBlock = some k → B ≤ k := fun k hk => Kd.R_base h3 k hk
  have hb : Below B w w' := (Below.refl B w).grown hg hle hbase
  have n1 := Kd.R_ne h3 (h2.get (i := 0) rfl) (by decide)
  have n2 := Kd.R_ne h3 (h2.get (i := 1) rfl) (by decide)
  refine ⟨h1.below hb hle, h2.rows (r1 := uP.ownBlock) (r2 := none) (hb.mono (by omega)) ((hg.block gd (h2.lt (i := 0) rfl) n1).trans (h2.get (i := 0) rfl)) (fun k hk _ hn _ => hg.block k hk hn) (fun p hp => ?_), hr, Kd.R_grown2 h4 rfl hg (fun k hk => ?_), h5, h6, h7, h8⟩
  · obtain rfl := List.mem_singleton.1 hp
    exact ⟨n2, by simp⟩
  · intro e
    exact ((Kd.R_apartR h3 h4 (by decide)).1 k hk).2 (by rw [e])
theorem PSt.rowC {C' : List S59} (h : PSt B0 B ge gd w0 w tk hs l bad vP vC uP uC P C) (hg : w.grownBy w' uC.ownBlock) (hr : k59.R 59 w' B (fun _ => True) u C') : PSt B0 B ge gd w0 w' tk hs l bad vP vC uP u P C' := by
  obtain ⟨h1, h2, h3, h4, h5, h6, h7, h8⟩ := h
  have hle : B ≤ w.heap.size := Nat.le_trans h5 (Nat.le_of_lt (h2.lt (i := 0) rfl))
  have hbase : ∀ k, uC.ownBlock = some k → B ≤ k := fun k hk => Kd.R_base h4 k hk
  have hb : Below B w w' := (Below.refl B w).grown hg hle hbase
  have n1 := Kd.R_ne h4 (h2.get (i := 0) rfl) (by decide)
  have n2 := Kd.R_ne h4 (h2.get (i := 1) rfl) (by decide)
  refine ⟨h1.below hb hle, h2.rows (r1 := uC.ownBlock) (r2 := none) (hb.mono (by omega)) ((hg.block gd (h2.lt (i := 0) rfl) n1).trans (h2.get (i := 0) rfl)) (fun k hk _ hn _ => hg.block k hk hn) (fun p hp => ?_), Kd.R_grown2 h3 rfl hg (fun k hk => ?_), hr, h5, h6, h7, h8⟩
  · obtain rfl := List.mem_singleton.1 hp
    exact ⟨n2, by simp⟩
  · intro e
    exact ((Kd.R_apartR h3 h4 (by decide)).1 k (by rw [← e])).2 hk.symm
theorem PSt.setP (h : PSt B0 B ge gd w0 w tk hs l bad vP vC uP uC P C) : PSt B0 B ge gd w0 (w.setCell ⟨gd, 2, none⟩ uP) tk hs l bad uP vC uP uC P C := by
  obtain ⟨h1, h2, h3, h4, h5, h6, h7, h8⟩ := h
  have hle : B ≤ w.heap.size := Nat.le_trans h5 (Nat.le_of_lt (h2.lt (i := 0) rfl))
  have n1 := Kd.R_ne h3 (h2.get (i := 0) rfl) (by decide)
  have n2 := Kd.R_ne h4 (h2.get (i := 0) rfl) (by decide)
  exact ⟨h1.below ((Below.refl B w).setCell h5 _) hle, h2.setCell (i := 0) rfl 2 uP, Kd.R_grown2 h3 rfl (grown_setCell _ _ _ _) (fun k hk => by cases hk; exact n1), Kd.R_grown2 h4 rfl (grown_setCell _ _ _ _) (fun k hk => by cases hk; exact n2), h5, h6, h7, h8⟩
theorem PSt.setC (h : PSt B0 B ge gd w0 w tk hs l bad vP vC uP uC P C) : PSt B0 B ge gd w0 (w.setCell ⟨gd, 3, none⟩ uC) tk hs l bad vP uC uP uC P C := by
  obtain ⟨h1, h2, h3, h4, h5, h6, h7, h8⟩ := h
  have hle : B ≤ w.heap.size := Nat.le_trans h5 (Nat.le_of_lt (h2.lt (i := 0) rfl))
  have n1 := Kd.R_ne h3 (h2.get (i := 0) rfl) (by decide)
  have n2 := Kd.R_ne h4 (h2.get (i := 0) rfl) (by decide)
  exact ⟨h1.below ((Below.refl B w).setCell h5 _) hle, h2.setCell (i := 0) rfl 3 uC, Kd.R_grown2 h3 rfl (grown_setCell _ _ _ _) (fun k hk => by cases hk; exact n1), Kd.R_grown2 h4 rfl (grown_setCell _ _ _ _) (fun k hk => by cases hk; exact n2), h5, h6, h7, h8⟩
end
end Go.Proofs.Yticpjidcgaaldaa

namespace Go.Proofs.Yticpjidcgaaldaa
open Go.RowKit Go.Proofs.YticpjidcgaaldaaW.PrintWords Go.Proofs.YticpjidcgaaldaaW.PrintLast Go.Proofs.YticpjidcgaaldaaW.PrintMore
set_option linter.unusedVariables false
set_option linter.unusedSimpArgs false

theorem Hp.eye {B0 B ge g : Nat} {w0 w w' : World} {o : Obj} {l : List Int} {b : Bool} (h : Hp B0 w0 w [(g, o)] []) (he : EyTo w w' ge B l b) (h0 : B0 ≤ ge) (hne : g ≠ ge) : Hp B0 w0 w' [(g, o)] [] :=
  h.rows (r1 := some ge) (r2 := none) (he.2.2.mono h0) ((he.2.1.2 g (h.lt (i := 0) rfl) hne (by simp)).trans (h.get (i := 0) rfl)) (fun k hk _ hn _ => he.2.1.2 k hk (fun e => hn (by rw [e])) (by simp)) (fun p hp => by cases hp)
theorem OfR.belowR {b : Nat} {w w' : World} {tk hs : Int} {P : List Int} {C : List S59} {v : Value} (h : OfR b w tk hs P C v) (hb : Below w.heap.size w w') : OfR b w' tk hs P C v := by
  obtain ⟨A, c, A2, c2, e, h1, h2, h3, h4⟩ := h
  exact ⟨A, c, A2, c2, e, h1, h2, Kd.R_below h3 hb, Kd.R_below h4 hb⟩
theorem OfR.setRow9 {b g T : Nat} {w : World} {tk hs : Int} {P : List Int} {C : List S59} {v : Value} {cur cs : Array Value} (h : OfR b w tk hs P C v) (hg : w.heap[g]? = some (.cells cur T (0, 0))) (h1 : 5 ≠ T) (h2 : 59 ≠ T) : OfR b (w.setRow g cs) tk hs P C v := by
  obtain ⟨A, c, A2, c2, e, k1, k2, h3, h4⟩ := h
  exact ⟨A, c, A2, c2, e, k1, k2, Kd.R_grown2 h3 rfl (grown_setRow _ _ _) (fun k hk => by cases hk; exact Kd.R_ne h3 hg h1), Kd.R_grown2 h4 rfl (grown_setRow _ _ _) (fun k hk => by cases hk; exact Kd.R_ne h4 hg h2)⟩
def Z4 : Array Value := #[.int .u32 0, .int .u32 0, .slice none 0 0, .slice none 0 0]
def ParseR (q : List Int) (b : Nat) (w' : World) (e : Ending) : Prop :=
  if okD q = true then ∃ v, e = .returned (.tuple #[v, .int .i64 0]) ∧ OfR b w' (leN (q.take 4)) (leN ((q.drop 4).take 4)) (pL (q.drop 9) (cntD q)) (cL (q.drop 9) (cntD q)) v
  else e = .returned (.tuple #[.agg Z4, .int .i64 2])
theorem zero_delta (w : World) : (zeroValue 26).run Try.prog w = .ok (.agg #[.int .u32 0, .int .u32 0, .slice none 0 0, .slice none 0 0]) w := by kernel_rfl

set_option maxRecDepth 100000 in
set_option maxHeartbeats 16000000 in
theorem parse_any (A : Option Addr) (n c : Nat) (q : List Int) (w00 : World) (hq : (Kd.int .u8).C w00 A n q) (hn : n ≤ 100000000) (hb : Bytes q) :
    Calls Try.prog 46 #[.slice A n c] w00 fun e w' => ParseR q w00.heap.size w' e ∧ Below w00.heap.size w00 w' := by
  have H0 := Aside0.mk ((Hp.start w00).alloc (.cells #[.int .u32 0, .int .u32 0, .slice none 0 0, .slice none 0 0] 26))
  have KR := Aside0.mk (read_any A n c q (w00.alloc (.cells #[.int .u32 0, .int .u32 0, .slice none 0 0, .slice none 0 0] 26)) (Kd.C_alloc hq _) hn)
  have HBQ := Aside0.mk hb
  clear hq hn hb
  go_enter Try.func46, Try.ntmps46
  go_wp2_with fail
  refine KR.out.mono ?_
  rintro e w1 ⟨ge, rfl, hge, hEy, hb1⟩
  obtain ⟨B0, hB0⟩ : ∃ B0, w00.heap.size = B0 := ⟨_, rfl⟩
  obtain ⟨B, hB⟩ : ∃ B, w1.heap.size = B := ⟨_, rfl⟩
  rw [hB] at hEy
  have hge2 : B0 < ge := by rw [← hB0]; simp at hge; omega
  have H1 := Aside0.mk (H0.out.call hb1)
  rw [hB0] at H1
  rw [hB0]
  have HB0 := Aside0.mk hB0
  have hgB : ge < B := by obtain ⟨_, _, _, _, _, _, _, h5⟩ := hEy; exact h5
  have HGE := Aside0.mk (And.intro hge2 hgB)
  have HBW : Aside0 (B = w1.heap.size) := ⟨hB.symm⟩
  obtain ⟨⟨tt, l1, b1⟩, e1⟩ : ∃ x, eFix 4 q false = x := ⟨_, rfl⟩
  obtain ⟨⟨hh, l2, b2⟩, e2⟩ : ∃ x, eFix 4 l1 b1 = x := ⟨_, rfl⟩
  obtain ⟨⟨nn, l3, b3⟩, e3⟩ : ∃ x, eByte l2 b2 = x := ⟨_, rfl⟩
  have HHD := Aside0.mk (head_step HBQ.out e1 e2 e3)
  have hBl1 : Bytes l1 := by have := eFix_b (bad := false) 4 HBQ.out; rw [e1] at this; exact this
  have hBl2 : Bytes l2 := by have := eFix_b (bad := b1) 4 hBl1; rw [e2] at this; exact this
  have K1 := eword_any ge B q false w1 hEy HBQ.out
  rw [e1] at K1
  have KK1 := Aside0.mk K1
  have KK2 := Aside0.mk (fun (X : World) (hx : Ey X ge B l1 b1) => eword_any ge B l1 b1 X hx hBl1)
  rw [e2] at KK2
  have KK3 := Aside0.mk (fun (X : World) (hx : Ey X ge B l2 b2) => ebyte_any ge B l2 b2 X hx)
  rw [e3] at KK3
  clear hB0 hB hge hge2 hgB hEy hb1 H0 KR K1 e1 e2 e3 hBl1 hBl2
  go_wp2_with fail
  refine KK1.out.mono ?_
  rintro e w2 ⟨rfl, he2⟩
  have H2 := Aside0.mk (H1.out.eye he2 (Nat.le_of_lt HGE.out.1) (Nat.ne_of_lt HGE.out.1))
  have HE2 := Aside0.mk he2
  clear he2 H1 KK1
  go_wp2_with fail
  refine (KK2.out _ HE2.out.1).mono ?_
  rintro e w3 ⟨rfl, he3⟩
  have H3 := Aside0.mk (H2.out.eye he3 (Nat.le_of_lt HGE.out.1) (Nat.ne_of_lt HGE.out.1))
  have hsz : B ≤ w3.heap.size := by have h1 := HE2.out.2.1.1; have h2 := he3.2.1.1; have := HBW.out; omega
  have HSZ := Aside0.mk hsz
  have H4 := Aside0.mk (H3.out.alloc (.cells #[.int .u32 tt, .int .u32 hh, .slice none 0 0, .slice none 0 0] 26))
  have HE4 := Aside0.mk (he3.1.below ((below_alloc (Below.refl w3.heap.size w3) (.cells #[.int .u32 tt, .int .u32 hh, .slice none 0 0, .slice none 0 0] 26)).mono hsz) hsz)
  clear he3 hsz H2 H3 HE2 KK2
  go_wp2_with fail
  have S0 : Aside0 (PSt B0 B ge w3.heap.size w00 (w3.alloc (.cells #[.int .u32 tt, .int .u32 hh, .slice none 0 0, .slice none 0 0] 26)) tt hh l2 b2 (.slice none 0 0) (.slice none 0 0) (.slice none 0 0) (.slice none 0 0) [] []) := ⟨HE4.out, H4.out, Kd.R_nil _ _ _ _ _, Kd.R_nil _ _ _ _ _, HSZ.out, Nat.le_of_lt HGE.out.1, HGE.out.2, HGE.out.1⟩
  refine (KK3.out _ S0.out.1).mono ?_
  rintro e w5 ⟨rfl, he5⟩
  have S1 := Aside0.mk (S0.out.eye he5)
  clear he5 H4 HE4 KK3 S0 HSZ HBW
  generalize w3.heap.size = gd at *
  obtain ⟨m, hm⟩ : ∃ m : Nat, nn = (m : Int) := ⟨nn.toNat, by have := HHD.out.2.1; omega⟩
  subst hm
  have hm255 : (m : Int) ≤ 255 := by have := HHD.out.2.2.1; omega
  go_wp2_with fail
  go_loopw [17] (fun v17 wr => ∃ i : Nat, i ≤ m ∧ v17 = .int .u8 i ∧ ∃ (l : List Int) (bad : Bool) (P : List Int) (C : List S59) (vP vC : Value), Aside0 (EyP q i l bad P C ∧ PSt B0 B ge gd w00 wr tt hh l bad vP vC vP vC P C)) (fun v17 _ => m - (intOf v17).toNat)
  case atStart => exact ⟨0, by omega, rfl, l3, b3, [], [], .slice none 0 0, .slice none 0 0, ⟨HHD.out.1, S1.out⟩⟩
  case round =>
    clear S1
    obtain ⟨i, hi, rfl, l, bad, P, C, vP, vC, H⟩ := hrel
    by_cases hlt : i < m
    · have d1 : decide (i < m) = true := decide_eq_true hlt
      have hi0 : (0 : Int) ≤ i := by omega
      have him : (i : Int) < m := by omega
      have hi8 : (i : Int) < 255 := by omega
      obtain ⟨⟨b, l1, b1⟩, e1⟩ : ∃ x, eByte l bad = x := ⟨_, rfl⟩
      obtain ⟨⟨vv, l2, b2⟩, e2⟩ : ∃ x, eFix 4 l1 b1 = x := ⟨_, rfl⟩
      obtain ⟨⟨mk, l3', b3'⟩, e3⟩ : ∃ x, eFix 4 l2 b2 = x := ⟨_, rfl⟩
      have HST := Aside0.mk (row_step H.out.1 e1 e2 e3)
      have hBl : Bytes l := H.out.1.2.2.1
      have hBl1 : Bytes l1 := by have := eByte_b (bad := bad) hBl; rw [e1] at this; exact this.2
      have hBl2 : Bytes l2 := by have := eFix_b (bad := b1) 4 hBl1; rw [e2] at this; exact this
      have HLN : Aside0 (P.length ≤ 255 ∧ C.length ≤ 255) := ⟨by have h1 := H.out.1.1; have h2 := H.out.1.2.1; omega⟩
      have K1 := Aside0.mk (fun (X : World) (hx : Ey X ge B l bad) => ebyte_any ge B l bad X hx)
      have K2 := Aside0.mk (fun (X : World) (hx : Ey X ge B l1 b1) => eword_any ge B l1 b1 X hx hBl1)
      have K3 := Aside0.mk (fun (X : World) (hx : Ey X ge B l2 b2) => eword_any ge B l2 b2 X hx hBl2)
      rw [e1] at K1
      rw [e2] at K2
      rw [e3] at K3
      have S := Aside0.mk H.out.2
      clear e1 e2 e3 hBl hBl1 hBl2 H
      go_wp2_with fail
      have GW : Aside0 (∀ b', wr.heap.size ≤ b' → some b' ≠ vP.ownBlock ∧ some b' ≠ vC.ownBlock ∧ b' ≠ gd ∧ b' ≠ ge) := ⟨fun b' hb' => ⟨fun e => by have := Kd.R_lt S.out.2.2.1 _ e.symm; omega, fun e => by have := Kd.R_lt S.out.2.2.2.1 _ e.symm; omega, fun e => by have := S.out.2.1.lt (i := 0) rfl; omega, fun e => by have := S.out.le; have := HGE.out.2; omega⟩⟩
      refine regionS (W := wr)
        [fun _ v => v = .pointer (some ⟨gd, 2, none⟩),
         fun _ v => v = vP,
         fun _ v => v = .pointer (some ⟨ge, 0, none⟩),
         fun _ v => v = .int .u8 b,
         fun (w : World) (v : Value) => ∃ bl, v = .slice (some ⟨bl, 0, none⟩) 1 1 ∧ wr.heap.size ≤ bl ∧ w.heap[bl]? = some (.cells #[.int .u8 b] 5 (0, 0)),
         fun _ _ => True,
         fun _ v => v = .pointer (some ⟨gd, 2, none⟩),
         fun _ _ => True]
        [3, 5, 7]
        (fun t => match t with | 0 => fun (rs : List Value) (w : World) => PSt B0 B ge gd w00 w tt hh l bad vP vC vP vC P C | 1 => fun (rs : List Value) (w : World) => PSt B0 B ge gd w00 w tt hh l1 b1 vP vC vP vC P C | 2 => fun (rs : List Value) (w : World) => PSt B0 B ge gd w00 w tt hh l1 b1 vP vC (rs.getD 1 undef) vC (P ++ [b]) C | 3 => fun (rs : List Value) (w : World) => ∃ u, PSt B0 B ge gd w00 w tt hh l1 b1 u vC u vC (P ++ [b]) C | _ => fun _ _ => False)
        (fun _ w w' => ∀ b', wr.heap.size ≤ b' → b' < w.heap.size → w'.heap[b']? = w.heap[b']?) (fun w => wr.heap.size ≤ w.heap.size)
        (fun j =>  none)
        [(0, some 19), (1, some 20), (2, some 21), (3, some 22), (4, some 23), (5, some 24), (6, some 25), (7, none)]
        []
        (by kernel_rfl) (by kernel_rfl) (by kernel_rfl) (by kernel_rfl) (by kernel_rfl) ?z5_1c ?z5_1i ?z5_1b ?z5_1d ?z5_1g ⟨?z5_1t0, ?z5_1t1, ?z5_1t2, ?z5_1t3, ?z5_1t4, ?z5_1t5, ?z5_1t6, ?z5_1t7, trivial⟩ ⟨?z5_1o0, ?z5_1o1, ?z5_1o2, ?z5_1o3, ?z5_1o4, ?z5_1o5, ?z5_1o6, ?z5_1o7, trivial⟩ ?z5_1e
      case z5_1c => exact (Nat.le_refl _)
      case z5_1i => exact (S.out.below (below_drew (Below.refl _ _)))
      case z5_1b => intro w w' hb h; exact Nat.le_trans h hb.size
      case z5_1d =>
        intro t rs w w' hb h
        match t, h with
        | 0, h => (replace h : PSt B0 B ge gd w00 w tt hh l bad vP vC vP vC P C := h); show PSt B0 B ge gd w00 w' tt hh l bad vP vC vP vC P C; first | exact PSt.below h hb | (obtain ⟨u, h⟩ := h; exact ⟨u, PSt.below h hb⟩)
        | 1, h => (replace h : PSt B0 B ge gd w00 w tt hh l1 b1 vP vC vP vC P C := h); show PSt B0 B ge gd w00 w' tt hh l1 b1 vP vC vP vC P C; first | exact PSt.below h hb | (obtain ⟨u, h⟩ := h; exact ⟨u, PSt.below h hb⟩)
        | 2, h => (replace h : PSt B0 B ge gd w00 w tt hh l1 b1 vP vC (rs.getD 1 undef) vC (P ++ [b]) C := h); show PSt B0 B ge gd w00 w' tt hh l1 b1 vP vC (rs.getD 1 undef) vC (P ++ [b]) C; first | exact PSt.below h hb | (obtain ⟨u, h⟩ := h; exact ⟨u, PSt.below h hb⟩)
        | 3, h => (replace h : ∃ u, PSt B0 B ge gd w00 w tt hh l1 b1 u vC u vC (P ++ [b]) C := h); show ∃ u, PSt B0 B ge gd w00 w' tt hh l1 b1 u vC u vC (P ++ [b]) C; first | exact PSt.below h hb | (obtain ⟨u, h⟩ := h; exact ⟨u, PSt.below h hb⟩)
        | _ + 4, h => exact h.elim
      case z5_1g =>
        intro j hj; cases hj
      case z5_1t0 => exact StabS.const _ _ _ _
      case z5_1t1 => exact StabS.const _ _ _ _
      case z5_1t2 => exact StabS.const _ _ _ _
      case z5_1t3 => exact StabS.const _ _ _ _
      case z5_1t4 => exact ⟨(by intro w w' v hb h; (obtain ⟨bl, h1, h2, h3⟩ := h; exact ⟨bl, h1, h2, blk_below h3 hb⟩)), (by intro k hk hne w w' v ht h; (obtain ⟨bl, h1, h2, h3⟩ := h; exact ⟨bl, h1, h2, (ht bl h2 (blk_lt h3)).trans h3⟩))⟩
      case z5_1t5 => exact StabS.const _ _ _ _
      case z5_1t6 => exact StabS.const _ _ _ _
      case z5_1t7 => exact StabS.const _ _ _ _
      case z5_1o0 =>
        intro vs w t hC ht1 ht2 hS hV
        rw [if_pos (by kernel_rfl)]
        generalize hρ : rho _ _ _ vs = ρ
        have e5 : ρ (.tmp 5) = .pointer (some ⟨gd, 0, none⟩) := by rw [← hρ]; kernel_rfl
        clear hρ hV
        refine runs_val (v := .pointer (some ⟨gd, 2, none⟩)) (w' := w) ?_ ⟨Below.refl _ _, rfl⟩
        clear ht1 ht2 hS hC
        go_simp <;> (first | exact IntWalk.u64_in _ (by omega) | exact IntWalk.u32_in _ (by omega) | exact IntWalk.u16_in _ (by omega) | exact IntWalk.u8_in _ (by omega) | exact IntWalk.i64_in _ (by omega) | skip)
      case z5_1o1 =>
        intro vs w t hC ht1 ht2 hS hV
        rw [if_pos (by kernel_rfl)]
        generalize hρ : rho _ _ _ vs = ρ
        have d19 : (vs 0) = .pointer (some ⟨gd, 2, none⟩) := hV 0 (by kernel_rfl)
        have e19 : ρ (.tmp 19) = vs 0 := by rw [← hρ]; kernel_rfl
        rw [d19] at e19; clear d19
        clear hρ hV
        have ht0 : t ≤ 1 := by
          rcases Nat.lt_or_ge 1 t with hq | hq
          · exact absurd (ht1 1 5 _ hq rfl rfl) (by decide +kernel)
          · exact hq
        rcases (show t = 0 ∨ t = 1 by omega) with rfl | rfl
        · replace hS : PSt B0 B ge gd w00 w tt hh l bad vP vC vP vC P C := hS
          have c0 := PSt.cellP hS
          refine runs_val (v := vP) (w' := w) ?_ ⟨Below.refl _ _, rfl⟩
          clear ht1 ht2 hS hC
          go_simp
        · replace hS : PSt B0 B ge gd w00 w tt hh l1 b1 vP vC vP vC P C := hS
          have c0 := PSt.cellP hS
          refine runs_val (v := vP) (w' := w) ?_ ⟨Below.refl _ _, rfl⟩
          clear ht1 ht2 hS hC
          go_simp
      case z5_1o2 =>
        intro vs w t hC ht1 ht2 hS hV
        rw [if_pos (by kernel_rfl)]
        generalize hρ : rho _ _ _ vs = ρ
        have e4 : ρ (.tmp 4) = .pointer (some ⟨ge, 0, none⟩) := by rw [← hρ]; kernel_rfl
        clear hρ hV
        refine runs_val (v := .pointer (some ⟨ge, 0, none⟩)) (w' := w) ?_ ⟨Below.refl _ _, rfl⟩
        clear ht1 ht2 hS hC
        go_simp <;> (first | exact IntWalk.u64_in _ (by omega) | exact IntWalk.u32_in _ (by omega) | exact IntWalk.u16_in _ (by omega) | exact IntWalk.u8_in _ (by omega) | exact IntWalk.i64_in _ (by omega) | skip)
      case z5_1o3 =>
        intro vs w hC hS hV
        replace hS : PSt B0 B ge gd w00 w tt hh l bad vP vC vP vC P C := hS
        rw [if_pos (by kernel_rfl)]
        generalize hρ : rho _ _ _ vs = ρ
        have d21 : (vs 2) = .pointer (some ⟨ge, 0, none⟩) := hV 2 (by kernel_rfl)
        have e21 : ρ (.tmp 21) = vs 2 := by rw [← hρ]; kernel_rfl
        rw [d21] at e21; clear d21
        have ef44 : ρ (.func 44) = .func (.func 44) #[] #[] := by rw [← hρ]; rfl
        clear hρ hV
        refine runs_call (f := 44) (args := #[.pointer (some ⟨ge, 0, none⟩)]) (w' := w) ?_ ?_
        · go_simp
        · refine (K1.out w hS.1).mono ?_
          rintro e w5 ⟨rfl, he5⟩
          exact ⟨_, rfl, Nat.le_trans hC he5.2.1.1, (fun b' h1 h2 => he5.2.1.2 b' h2 (GW.out b' h1).2.2.2 (by simp)), rfl, hS.eye he5⟩
      case z5_1o4 =>
        intro vs w t hC ht1 ht2 hS hV
        rw [if_pos (by kernel_rfl)]
        generalize hρ : rho _ _ _ vs = ρ
        have d22 : (vs 3) = .int .u8 b := hV 3 (by kernel_rfl)
        have e22 : ρ (.tmp 22) = vs 3 := by rw [← hρ]; kernel_rfl
        rw [d22] at e22; clear d22
        clear hρ hV
        refine runs_val (v := .slice (some ⟨w.heap.size, 0, none⟩) 1 1) (w' := w.alloc (.cells #[.int .u8 b] 5)) ?_ ⟨below_alloc (Below.refl _ _) _, ⟨w.heap.size, rfl, hC, blk_new _ _⟩⟩
        clear ht1 ht2 hS hC
        go_simp
      case z5_1o5 =>
        intro vs w hC hS hV
        replace hS : PSt B0 B ge gd w00 w tt hh l1 b1 vP vC vP vC P C := hS
        rw [if_pos (by kernel_rfl)]
        generalize hρ : rho _ _ _ vs = ρ
        have d20 : (vs 1) = vP := hV 1 (by kernel_rfl)
        have e20 : ρ (.tmp 20) = vs 1 := by rw [← hρ]; kernel_rfl
        rw [d20] at e20; clear d20
        have d23 : (fun (w : World) (v : Value) => ∃ bl, v = .slice (some ⟨bl, 0, none⟩) 1 1 ∧ wr.heap.size ≤ bl ∧ w.heap[bl]? = some (.cells #[.int .u8 b] 5 (0, 0))) w (vs 4) := hV 4 (by kernel_rfl)
        have e23 : ρ (.tmp 23) = vs 4 := by rw [← hρ]; kernel_rfl
        obtain ⟨bl, hve23, hbl1, hbl2⟩ := d23
        clear hρ hV
        rw [hve23] at e23
        refine runs_append (Kd.int .u8) (Rr := fun x cs => cs = [.int .u8 x]) B 20 23 23 5 (.int .u8 0) 1 rfl Try.underlying23 np_info rfl (by decide) (by decide) vP P [b] (some ⟨bl, 0, none⟩) 1 1 (fun _ => True) (fun _ => False) e20 e23 hS.2.2.1 (C_of_block (k := .u8) hbl2 ⟨rfl, rfl, by decide⟩) (fun _ _ h => h) (fun _ h => h.elim) (fun _ _ => trivial) hS.le (by have := HLN.out; omega) ?_
        intro v1 w1 h1 hg1 hat
        exact ⟨Nat.le_trans hC hg1.size, (fun b' h1 h2 => hg1.block b' h2 (GW.out b' h1).1), trivial, hS.rowP hg1 h1⟩
      case z5_1o6 =>
        intro vs w t hC ht1 ht2 hS hV
        rw [if_pos (by kernel_rfl)]
        generalize hρ : rho _ _ _ vs = ρ
        have e5 : ρ (.tmp 5) = .pointer (some ⟨gd, 0, none⟩) := by rw [← hρ]; kernel_rfl
        clear hρ hV
        refine runs_val (v := .pointer (some ⟨gd, 2, none⟩)) (w' := w) ?_ ⟨Below.refl _ _, rfl⟩
        clear ht1 ht2 hS hC
        go_simp <;> (first | exact IntWalk.u64_in _ (by omega) | exact IntWalk.u32_in _ (by omega) | exact IntWalk.u16_in _ (by omega) | exact IntWalk.u8_in _ (by omega) | exact IntWalk.i64_in _ (by omega) | skip)
      case z5_1o7 =>
        intro vs w hC hS hV
        replace hS : PSt B0 B ge gd w00 w tt hh l1 b1 vP vC (vs 5) vC (P ++ [b]) C := hS
        rw [if_pos (by kernel_rfl)]
        generalize hρ : rho _ _ _ vs = ρ
        have d25 : (vs 6) = .pointer (some ⟨gd, 2, none⟩) := hV 6 (by kernel_rfl)
        have e25 : ρ (.tmp 25) = vs 6 := by rw [← hρ]; kernel_rfl
        rw [d25] at e25; clear d25
        have d24 : (fun (w : World) (v : Value) => True) w (vs 5) := hV 5 (by kernel_rfl)
        have e24 : ρ (.tmp 24) = vs 5 := by rw [← hρ]; kernel_rfl
        clear hρ hV
        have hS2 := hS.setP
        obtain ⟨A5, c5, hs5⟩ := Kd.R_slice hS.2.2.1
        have f0 := blk_frozen (hS.2.1.get (i := 0) rfl) 2
        have c0 := PSt.cellP hS
        refine runs_skip (w' := w.setCell ⟨gd, 2, none⟩ (vs 5)) ?_ ⟨Nat.le_trans hC (by simp [World.setCell]), (fun b' h1 h2 => Below.heap_setCell _ _ _ _ (GW.out b' h1).2.2.1), trivial, ⟨_, hS2⟩⟩
        rw [hs5] at e24
        rw [hs5]
        clear hS hS2 hC d24 hs5
        go_simp
      case z5_1e =>
        intro vs z1 hC hS hV
        replace hS : (fun (w : World) => ∃ u, PSt B0 B ge gd w00 w tt hh l1 b1 u vC u vC (P ++ [b]) C) z1 := hS
        have d19 : (vs 0) = .pointer (some ⟨gd, 2, none⟩) := hV 0 (Nat.le_of_ble_eq_true rfl)
        have d20 : (vs 1) = vP := hV 1 (Nat.le_of_ble_eq_true rfl)
        have d21 : (vs 2) = .pointer (some ⟨ge, 0, none⟩) := hV 2 (Nat.le_of_ble_eq_true rfl)
        have d22 : (vs 3) = .int .u8 b := hV 3 (Nat.le_of_ble_eq_true rfl)
        have d23 : (fun (w : World) (v : Value) => ∃ bl, v = .slice (some ⟨bl, 0, none⟩) 1 1 ∧ wr.heap.size ≤ bl ∧ w.heap[bl]? = some (.cells #[.int .u8 b] 5 (0, 0))) z1 (vs 4) := hV 4 (Nat.le_of_ble_eq_true rfl)
        have d24 : (fun (w : World) (v : Value) => True) z1 (vs 5) := hV 5 (Nat.le_of_ble_eq_true rfl)
        have d25 : (vs 6) = .pointer (some ⟨gd, 2, none⟩) := hV 6 (Nat.le_of_ble_eq_true rfl)
        clear hV
        simp only [putAll]
        rw [d19, d20, d21, d22, d25]
        clear d19 d20 d21 d22 d25
        generalize vs 4 = v23 at *
        generalize vs 5 = v24 at *
        generalize vs 7 = vN7
        clear vs
        simp only [Act.put, List.setIfInBounds_toArray, List.set_cons_zero, List.set_cons_succ]
        obtain ⟨vP', hS⟩ := hS
        have S1 := Aside0.mk hS
        clear hS hC d23 d24 GW S K1
        go_wp2_with fail
        refine (K2.out _ S1.out.1).mono ?_
        rintro e z2 ⟨rfl, he2⟩
        have S2 := Aside0.mk (S1.out.eye he2)
        clear he2 S1 K2
        go_wp2_with fail
        refine (K3.out _ S2.out.1).mono ?_
        rintro e z3 ⟨rfl, he3⟩
        have S3 := Aside0.mk (S2.out.eye he3)
        clear he3 S2 K3
        obtain ⟨x0, hx0⟩ : ∃ x0, wrap32 vv = x0 := ⟨_, rfl⟩
        have HX0 := Aside0.mk hx0
        rw [hx0] at HST
        clear hx0
        have S3a := Aside0.mk (S3.out.below (below_alloc (Below.refl _ _) (.cells #[.int .i32 x0, .int .u32 mk] 59)))
        have HCX := Aside0.mk (C_one_cell2 (x := ⟨x0, mk⟩) (blk_new z3 (.cells #[.int .i32 x0, .int .u32 mk] 59)))
        have HLC : Aside0 ((C.length + 1) * 8 ≤ 140737488355328) := ⟨by have := HLN.out; omega⟩
        have c3' := PSt.cellC S3.out
        have hx0 := HX0.out
        go_wp2_with (at_builtin; go_loud (refine Kd.R_append_rows k59 (Rr := fun x cs => cs = [.int .i32 x.f0, .int .u32 x.f1]) (w0 := z3.alloc (.cells #[.int .i32 x0, .int .u32 mk] 59)) B rfl (.tmp 31) (.tmp 36) 24 59 (.agg #[.int .i32 0, .int .u32 0]) 8 rfl Try.underlying24 cell_full rfl (by decide) (by decide) vC C [⟨x0, mk⟩] (some ⟨z3.heap.size, 0, none⟩) 1 1 (fun _ => True) (fun _ => False) rfl rfl S3a.out.2.2.2.1 HCX.out (fun x cs h => by rw [h]; exact k59_mkM _ _ _ x) (fun _ h => h.elim) (fun _ _ => trivial) (Below.refl _ _) S3a.out.le HLC.out ?_))
        intro v1 z4 hv4 hb4 hg4 _
        have S5 := Aside0.mk (S3a.out.rowC hg4 hv4)
        obtain ⟨A5, c5, hs5⟩ := Kd.R_slice hv4
        subst hs5
        generalize (C ++ [(⟨x0, mk⟩ : S59)]).length = cl5 at *
        clear c3' hx0 hv4 hb4 hg4 S3 S3a HCX HLC HX0
        have c3' := PSt.cellC S5.out
        have f3' := blk_frozen (S5.out.2.1.get (i := 0) rfl) 3
        have S4 : Aside0 (EyP q (i + 1) l3' b3' (P ++ [b]) (C ++ [⟨x0, mk⟩]) ∧ PSt B0 B ge gd w00 (z4.setCell ⟨gd, 3, none⟩ (.slice A5 cl5 c5)) tt hh l3' b3' vP' (.slice A5 cl5 c5) vP' (.slice A5 cl5 c5) (P ++ [b]) (C ++ [⟨x0, mk⟩])) := ⟨HST.out, S5.out.setC⟩
        clear HST S5
        go_wp2_with fail
        go_roundw
        case rel => exact ⟨i + 1, by omega, by go_num, l3', b3', P ++ [b], C ++ [⟨x0, mk⟩], vP', .slice A5 cl5 c5, S4⟩
        case measure => simp [intOf]; omega
    · obtain rfl : i = m := by omega
      have d1 : decide (i < i) = false := decide_eq_false (by omega)
      clear hlt hi
      have hfin := H.out.1
      obtain ⟨hl1, hl2, hl3, hl4, hcase⟩ := hfin
      have hcnt : 9 ≤ q.length → i = cntD q := fun h9 => by have := (HHD.out.2.2.2.1 h9).2.2; simpa using this
      have KD := Aside0.mk (done_any ge B l bad wr H.out.2.1)
      obtain ⟨A1, c1, hv1, lc1, k1⟩ := Kd.R_reads H.out.2.2.2.1
      obtain ⟨A2, c2, hv2, lc2, k2⟩ := Kd.R_reads H.out.2.2.2.2.1
      have KRT := Aside0.mk (right_any tt hh A1 A2 c1 c2 P C wr k1 lc1 k2 lc2 hl4 (by omega))
      have hRP := H.out.2.2.2.1
      have hRC := H.out.2.2.2.2.1
      have hBB := Nat.le_trans (Nat.le_of_lt HGE.out.1) (Nat.le_of_lt HGE.out.2)
      have HOF := Aside0.mk (show OfR B0 wr tt hh P C (.agg #[.int .u32 tt, .int .u32 hh, vP, vC]) from ⟨A1, c1, A2, c2, by rw [hv1, hv2], lc1, lc2, by rw [← hv1]; exact Kd.R_lower hRP hBB, by rw [← hv2]; exact Kd.R_lower hRC hBB⟩)
      have HP := Aside0.mk H.out.2.2.1
      rw [hv1, hv2] at HP HOF
      by_cases hd : bad = true ∨ 0 < l.length
      · rw [if_pos hd] at KD
        have hok : okD q = false := by
          unfold okD
          rw [Bool.and_eq_false_iff]
          left
          rw [decide_eq_false_iff_not]
          rintro ⟨h9, hq9⟩
          have hc := hcnt h9
          rcases hcase with ⟨hb, hl, hle, _⟩ | ⟨hb, hl, hlt⟩
          · rcases hd with h | h
            · rw [hb] at h; cases h
            · rw [hl, List.length_drop] at h
              omega
          · omega
        have HOK := Aside0.mk hok
        clear hcase hcnt hl1 hl2 hl3 hl4 hv1 hv2 lc1 lc2 k1 k2 hRP hRC hBB hd hok H KRT
        go_wp2_with fail
        refine KD.out.mono ?_
        rintro e w2 ⟨rfl, rfl⟩
        clear KD
        have hzd := zero_delta
        go_wp2_with (first | (refine wpList_store_row rfl 26 (.tmp 2) (.tmp 48) rfl B0 #[.int .u32 0, .int .u32 0, .slice none 0 0, .slice none 0 0] rfl rfl 26 _ (HP.out.get (i := 1) rfl) (delta_info _ _ _ _) rfl (by simp [Value.oneCell']) ?_))
        have H9 := Aside0.mk (HP.out.setRow (i := 1) rfl #[.int .u32 0, .int .u32 0, .slice none 0 0, .slice none 0 0])
        refine bodyPost_ret (results_ct rfl _ _ B0 _ #[.int .u32 0, .int .u32 0, .slice none 0 0, .slice none 0 0] (0, 0) _ rfl (H9.out.get (i := 1) rfl) Try.underlying26 rfl (delta_info _ _ _ _)) rfl ?_
        refine ⟨?_, by rw [HB0.out]; exact H9.out.bel⟩
        unfold ParseR
        rw [HOK.out]
        rfl
      · rw [if_neg hd] at KD
        have hgood : bad = false ∧ l = [] := by
          refine ⟨by cases bad; rfl; exact absurd (.inl rfl) hd, ?_⟩
          rcases l with _ | ⟨a, l⟩
          · rfl
          · exact absurd (.inr (by simp)) hd
        obtain ⟨hq9, hPe, hCe⟩ : (9 ≤ q.length ∧ q.length = 9 + 9 * cntD q) ∧ P = pL (q.drop 9) (cntD q) ∧ C = cL (q.drop 9) (cntD q) := by
          rcases hcase with ⟨hb, hl, hle, hPe, hCe⟩ | ⟨hb, hl, hlt⟩
          · have h9 : 9 ≤ q.length := by omega
            have hc := hcnt h9
            have hl0 : (q.drop (9 + 9 * i)).length = 0 := by rw [← hl, hgood.2]; rfl
            rw [List.length_drop] at hl0
            exact ⟨⟨h9, by omega⟩, by rw [← hc]; exact hPe, by rw [← hc]; exact hCe⟩
          · rw [hgood.1] at hb; cases hb
        have hok : okD q = rightB P C.length := by
          unfold okD rightB
          rw [decide_eq_true hq9, hPe, hCe, pL_len, cL_len]
          simp
        have htk := HHD.out.2.2.2.1 hq9.1
        have HOK := Aside0.mk (And.intro hok (And.intro hPe (And.intro hCe (And.intro htk.1 htk.2.1))))
        obtain ⟨β, hβ⟩ : ∃ β, rightB P C.length = β := ⟨_, rfl⟩
        rw [hβ] at KRT HOK
        subst hv1 hv2
        clear hcase hcnt hl1 hl2 hl3 hl4 lc1 lc2 k1 k2 hRP hRC hBB hd hok H hgood hq9 hPe hCe htk hβ
        generalize hpn : P.length = pn at *
        generalize hcn : C.length = cn at *
        have HN := Aside0.mk (And.intro hpn hcn)
        clear hpn hcn
        go_wp2_with fail
        refine KD.out.mono ?_
        rintro e w2 ⟨rfl, rfl⟩
        clear KD
        go_wp2_with (first | (refine wpList_load_row_g 26 (.tmp 5) rfl gd rfl rfl 26 _ (0, 0) _ (HP.out.get (i := 0) rfl) Try.underlying26 rfl (delta_info _ _ _ _) ?_))
        refine KRT.out.mono ?_
        rintro e w3 ⟨rfl, hb3⟩
        have HP3 := Aside0.mk (HP.out.call hb3)
        have HOF3 := Aside0.mk (HOF.out.belowR hb3)
        clear hb3 HP HOF KRT
        have hzd := zero_delta
        cases β with
        | false =>
          go_wp2_with (first | (refine wpList_store_row rfl 26 (.tmp 2) (.tmp 48) rfl B0 #[.int .u32 0, .int .u32 0, .slice none 0 0, .slice none 0 0] rfl rfl 26 _ (HP3.out.get (i := 1) rfl) (delta_info _ _ _ _) rfl (by simp [Value.oneCell']) ?_))
          have H9 := Aside0.mk (HP3.out.setRow (i := 1) rfl #[.int .u32 0, .int .u32 0, .slice none 0 0, .slice none 0 0])
          refine bodyPost_ret (results_ct rfl _ _ B0 _ #[.int .u32 0, .int .u32 0, .slice none 0 0, .slice none 0 0] (0, 0) _ rfl (H9.out.get (i := 1) rfl) Try.underlying26 rfl (delta_info _ _ _ _)) rfl ?_
          refine ⟨?_, by rw [HB0.out]; exact H9.out.bel⟩
          unfold ParseR
          rw [HOK.out.1]
          rfl
        | true =>
          go_wp2_with (first | (refine wpList_load_row_g 26 (.tmp 5) rfl gd rfl rfl 26 _ (0, 0) _ (HP3.out.get (i := 0) rfl) Try.underlying26 rfl (delta_info _ _ _ _) ?_) | (refine wpList_store_row rfl 26 (.tmp 2) (.tmp 49) rfl B0 #[.int .u32 tt, .int .u32 hh, .slice A1 pn c1, .slice A2 cn c2] rfl rfl 26 _ (HP3.out.get (i := 1) rfl) (delta_info _ _ _ _) rfl (by simp [Value.oneCell']) ?_))
          have H9 := Aside0.mk (HP3.out.setRow (i := 1) rfl #[.int .u32 tt, .int .u32 hh, .slice A1 pn c1, .slice A2 cn c2])
          refine bodyPost_ret (results_ct rfl _ _ B0 _ #[.int .u32 tt, .int .u32 hh, .slice A1 pn c1, .slice A2 cn c2] (0, 0) _ rfl (H9.out.get (i := 1) rfl) Try.underlying26 rfl (delta_info _ _ _ _)) rfl ?_
          refine ⟨?_, by rw [HB0.out]; exact H9.out.bel⟩
          unfold ParseR
          rw [HOK.out.1, if_pos rfl, ← HOK.out.2.1, ← HOK.out.2.2.1, ← HOK.out.2.2.2.1, ← HOK.out.2.2.2.2, HB0.out]
          exact ⟨_, rfl, HOF3.out.setRow9 (HP3.out.get (i := 1) rfl) (by decide) (by decide)⟩
end Go.Proofs.Yticpjidcgaaldaa

namespace Go.Proofs.Yticpjidcgaaldaa
open Go.RowKit Go.Proofs.YticpjidcgaaldaaW.PrintWords Go.Proofs.YticpjidcgaaldaaW.PrintLast Go.Proofs.YticpjidcgaaldaaW.PrintMore
attribute [local go_sem] max2_int min2_int max_two min_two max_three min_three max_four min_four   -- for this text's walks alone
set_option linter.unusedVariables false
set_option linter.unusedSimpArgs false

/-! ### bytes_Equal: function 66 -/
def bytes_Equal.f (l0 : List Int) (l1 : List Int) : Option (Bool) := some ((strOfNums l0).toList == (strOfNums l1).toList)
set_option maxHeartbeats 8000000 in
set_option maxRecDepth 100000 in
theorem bytes_Equal.calls (A0 : Option Addr) (c0 : Nat) (l0 : List Int) (A1 : Option Addr) (c1 : Nat) (l1 : List Int) (r : Bool) (w : World) (hr0 : Kd.C (Kd.int .u8) w A0 l0.length l0) (hc0 : l0.length ≤ c0) (hr1 : Kd.C (Kd.int .u8) w A1 l1.length l1) (hc1 : l1.length ≤ c1) (h : bytes_Equal.f l0 l1 = some r) :
    Calls Try.prog 66 #[.slice A0 l0.length c0, .slice A1 l1.length c1] w fun e w' => e = .returned (.bool r) ∧ Drawn0 w w' := by
  have HR0 := Aside0.mk hr0
  have HC0 := Aside0.mk hc0
  clear hr0 hc0
  have HR1 := Aside0.mk hr1
  have HC1 := Aside0.mk hc1
  clear hr1 hc1
  have H : (some ((strOfNums l0).toList == (strOfNums l1).toList)) = some r := h
  clear h
  obtain rfl := Option.some.inj H
  have hcv3 := Kd.C_string (P := Try.prog) (A := A0) (c := c0) Try.underlying23 Try.underlying5 Try.underlying9 HR0.out
  have hcv4 := Kd.C_string (P := Try.prog) (A := A1) (c := c1) Try.underlying23 Try.underlying5 Try.underlying9 HR1.out
  go_enter Try.func66, Try.ntmps66
  go_wp2
  go_ret
  exact ⟨by first | rfl | (simp; done) | (simp [*]; done), by repeat (first | exact Drawn0.refl _ | apply Drawn0.step)⟩

/-! ### hoodwinkref01_Cut: function 12 -/
def hoodwinkref01_Cut.l0 : Nat → Int → List Int → List Int → Int → Int → Option (List Int)
  | 0, _, _, _, _, _ => none
  | k + 1, x1, x5, x8, x9, x10 => if x10 < x9 then (if 0 ≤ x10 then (if x10 < (x8.length : Int) then (if x10 < x1 then (if x5.length < 140737488355328 then (hoodwinkref01_Cut.l0 k x1 (x5 ++ [rd x8 x10]) x8 x9 (wrap64 (x10 + 1))) else (none)) else (hoodwinkref01_Cut.l0 k x1 x5 x8 x9 (wrap64 (x10 + 1)))) else (none)) else (none)) else (some x5)
def hoodwinkref01_Cut.f (k : Nat) (l0 : List Int) (a1 : Int) : Option (List Int) := hoodwinkref01_Cut.l0 k a1 ([] : List Int) l0 (l0.length : Int) 0
theorem hoodwinkref01_Cut.mono_l : ∀ k, (∀ y0 y1 y2 y3 y4, LeO (hoodwinkref01_Cut.l0 k y0 y1 y2 y3 y4) (hoodwinkref01_Cut.l0 (k + 1) y0 y1 y2 y3 y4))
  | 0 => fun _ _ _ _ _ r h => by simp [hoodwinkref01_Cut.l0] at h
  | k + 1 => by
    have ih0 := hoodwinkref01_Cut.mono_l k
    · intro y0 y1 y2 y3 y4
      unfold hoodwinkref01_Cut.l0
      repeat' first
      | (with_reducible exact ih0 _ _ _ _ _)
      | (with_reducible exact LeO.refl _)
      | (with_reducible exact LeO.none _)
      | (with_reducible refine LeO.ite ?_ ?_)
      | (with_reducible refine LeO.bind ?_ (fun _ => ?_))
      | exact ih0 _ _ _ _ _
      | exact LeO.none _
      | refine LeO.ite ?_ ?_
      | refine LeO.bind ?_ (fun _ => ?_)
theorem hoodwinkref01_Cut.mono : ∀ a0 a1 k, LeO (hoodwinkref01_Cut.f k a0 a1) (hoodwinkref01_Cut.f (k + 1) a0 a1) := by
  intro a0 a1 k
  have ih0 := hoodwinkref01_Cut.mono_l k
  unfold hoodwinkref01_Cut.f
  repeat' first
      | (with_reducible exact ih0 _ _ _ _ _)
      | (with_reducible exact LeO.refl _)
      | (with_reducible exact LeO.none _)
      | (with_reducible refine LeO.ite ?_ ?_)
      | (with_reducible refine LeO.bind ?_ (fun _ => ?_))
      | exact ih0 _ _ _ _ _
      | exact LeO.none _
      | refine LeO.ite ?_ ?_
      | refine LeO.bind ?_ (fun _ => ?_)
set_option maxHeartbeats 8000000 in
set_option maxRecDepth 100000 in
theorem hoodwinkref01_Cut.calls (k : Nat) (A0 : Option Addr) (c0 : Nat) (l0 : List Int) (a1 : Int) (r : List Int) (w : World) (hr0 : Kd.C (Kd.int .u8) w A0 l0.length l0) (hc0 : l0.length ≤ c0) (h : hoodwinkref01_Cut.f k l0 a1 = some r) :
    Calls Try.prog 12 #[.slice A0 l0.length c0, .int .i64 a1] w fun e w' => ∃ v0_ : Value, e = .returned (v0_) ∧ Kd.R (Kd.int .u8) 5 w' w.heap.size (fun _ => True) v0_ r ∧ Below w.heap.size w w' := by
  have HR0 := Aside0.mk hr0
  have HC0 := Aside0.mk hc0
  clear hr0 hc0
  have HB := Aside0.mk (Below.refl w.heap.size w)
  have H : (hoodwinkref01_Cut.l0 k a1 ([] : List Int) l0 (l0.length : Int) 0) = some r := h
  clear h
  have H' := Aside0.mk H
  clear H
  go_enter Try.func12, Try.ntmps12
  go_wp2
  go_loopg [5, 10] k (fun kq v5 v10 w' => ∃ (x5_1 : List Int) (x10_1 : Int), v10 = .int .i64 x10_1 ∧ Aside0 (hoodwinkref01_Cut.l0 kq a1 x5_1 l0 (l0.length : Int) x10_1 = some r) ∧ Aside0 (kq ≤ k) ∧ Aside0 (Kd.R (Kd.int .u8) 5 w' w.heap.size (fun _ => True) v5 x5_1) ∧ Aside0 (Below w.heap.size w w'))
  case atStart => exact ⟨(([] : List Int)), (0), (by first | rfl | (simp; done) | (simp [*]; done)), H', ⟨Nat.le_refl _⟩, ⟨by first | exact Kd.R_nil _ _ _ _ _ | exact Kd.N_nil _ _ _ _ _ | exact Kd.V_nil _ _ _ _ _ | exact Kd.Q_nil _ _ _ _ _ | exact Kd.S_nil _ _ _ _ _⟩, ⟨by repeat (first | (with_reducible first | exact HB.out | apply below_alloc | apply pw_below_drewN | apply below_drew1) | exact HB.out)⟩⟩
  case round =>
    clear H'
    try clear c1
    try clear p2
    obtain ⟨x5_1, x10_1, rfl, HA, HK1, HO_5, HB⟩ := hrel
    cases gk with
    | zero => exact absurd HA.out (by simp [hoodwinkref01_Cut.l0])
    | succ k1 =>
      have H := HA.out
      clear HA
      simp only [hoodwinkref01_Cut.l0] at H
      by_cases c3 : x10_1 < (l0.length : Int)
      · rw [if_pos c3] at H
        have c3b0 : decide (x10_1 < (l0.length : Int)) = true := decide_eq_true c3
        clear c3
        by_cases c4 : 0 ≤ x10_1
        · rw [if_pos c4] at H
          have c4b0 : decide (0 ≤ x10_1) = true := decide_eq_true c4
          clear c4
          by_cases c5 : x10_1 < (l0.length : Int)
          · rw [if_pos c5] at H
            have c5b0 : decide (x10_1 < (l0.length : Int)) = true := decide_eq_true c5
            clear c5
            by_cases c6 : x10_1 < a1
            · rw [if_pos c6] at H
              have c6b0 : decide (x10_1 < a1) = true := decide_eq_true c6
              clear c6
              by_cases c7 : x5_1.length < 140737488355328
              · rw [if_pos c7] at H
                have LMc7 := Aside0.mk c7
                clear c7
                obtain ⟨y123, hy123⟩ : ∃ y_ : List Int, y_ = (x5_1 ++ [rd l0 x10_1]) := ⟨_, rfl⟩
                replace H : (hoodwinkref01_Cut.l0 k1 a1 y123 l0 (l0.length : Int) (wrap64 (x10_1 + 1))) = some r := by first | (rw [hy123]; with_reducible exact H) | (have H2_ := (Option.bind_some _ _).symm.trans H; rw [hy123]; with_reducible exact H2_) | (have H2_ := (Option.bind_some _ _).symm.trans H; with_reducible exact H2_) | with_reducible exact H | (rw [hy123]; exact H) | exact H
                have Ny123 := Aside0.mk hy123
                clear hy123
                have H' := Aside0.mk H
                clear H
                have p122 : 0 ≤ (x10_1 : Int) := of_decide_eq_true (by first | (with_reducible assumption) | assumption)
                have q122 : x10_1 < (l0.length : Int) := of_decide_eq_true (by first | (with_reducible assumption) | assumption)
                obtain ⟨ad122, e122, hx122_0⟩ := Kd.at_int HR0.out x10_1 p122 q122
                cases e122
                replace hx122_0 := (HB.out.cell (World.block_lt_of_cell? w _ hx122_0)).trans hx122_0
                replace p122 := eq_true p122
                replace q122 := eq_true q122
                go_wp2_with (first | ((with_reducible refine gate_builtin (b := .append) (xs := #[.tmp 18, .tmp 20]) rfl ?_); at_builtin; refine Kd.R_append (Kd.int .u8) (w0 := w) w.heap.size rfl (.tmp 18) (.tmp 20) 23 5 (.int .u8 0) 1 rfl Try.underlying23 info5 rfl (by decide) (by omega) u5 x5_1 (rd l0 x10_1) [.int .u8 (rd l0 x10_1)] (fun _ => True) (fun _ => False) rfl rfl ?aP (fun _ hk => hk.elim) ?aF ?aO ?aB ?aS ?aL ?_; (case aP => exact rfl); (case aB => exact (by repeat (first | (with_reducible first | exact HB.out | apply below_alloc | apply pw_below_drewN | apply below_drew1) | exact HB.out))); (case aF => exact (fun _ _ => trivial)); (case aO => exact (by (with_reducible repeat (first | apply Kd.R_alloc | apply Kd.R_drewN | apply Kd.R_drew)); exact HO_5.out)); (case aS => exact (below_size (by repeat (first | (with_reducible first | exact HB.out | apply below_alloc | apply pw_below_drewN | apply below_drew1) | exact HB.out)))); (case aL => have := LMc7.out; omega); intro v124 w8 ho hb hg hat; rw [← Ny123.out] at ho; have n0_ := Aside0.mk (hb); have n1_ := Aside0.mk (ho); clear HB; clear HO_5; have HB := n0_; have HO125 := n1_; clear n0_ n1_; clear ho hb hg hat))
                go_roundg k1
                case measure => have := HK1.out; omega
                case rel => exact ⟨(y123), (wrap64 (x10_1 + 1)), (by first | rfl | (simp; done) | (simp [*]; done)), H', ⟨by have := HK1.out; omega⟩, ⟨by (with_reducible repeat (first | apply Kd.R_alloc | apply Kd.R_drewN | apply Kd.R_drew)); exact HO125.out⟩, ⟨by repeat (first | (with_reducible first | exact HB.out | apply below_alloc | apply pw_below_drewN | apply below_drew1) | exact HB.out)⟩⟩
              · rw [if_neg c7] at H
                exact absurd H (by simp)
            · rw [if_neg c6] at H
              have c6b0 : decide (x10_1 < a1) = false := decide_eq_false c6
              clear c6
              have H' := Aside0.mk H
              clear H
              have p122 : 0 ≤ (x10_1 : Int) := of_decide_eq_true (by first | (with_reducible assumption) | assumption)
              have q122 : x10_1 < (l0.length : Int) := of_decide_eq_true (by first | (with_reducible assumption) | assumption)
              obtain ⟨ad122, e122, hx122_0⟩ := Kd.at_int HR0.out x10_1 p122 q122
              cases e122
              replace hx122_0 := (HB.out.cell (World.block_lt_of_cell? w _ hx122_0)).trans hx122_0
              replace p122 := eq_true p122
              replace q122 := eq_true q122
              go_wp2
              go_roundg k1
              case measure => have := HK1.out; omega
              case rel => exact ⟨(x5_1), (wrap64 (x10_1 + 1)), (by first | rfl | (simp; done) | (simp [*]; done)), H', ⟨by have := HK1.out; omega⟩, ⟨by (with_reducible repeat (first | apply Kd.R_alloc | apply Kd.R_drewN | apply Kd.R_drew)); exact HO_5.out⟩, ⟨by repeat (first | (with_reducible first | exact HB.out | apply below_alloc | apply pw_below_drewN | apply below_drew1) | exact HB.out)⟩⟩
          · rw [if_neg c5] at H
            exact absurd H (by simp)
        · rw [if_neg c4] at H
          exact absurd H (by simp)
      · rw [if_neg c3] at H
        have c3b0 : decide (x10_1 < (l0.length : Int)) = false := decide_eq_false c3
        clear c3
        obtain rfl := Option.some.inj H
        go_wp2
        go_ret
        exact ⟨_, by first | rfl | (simp [errW_none, errW_some] <;> rfl) | (simp [*, errW_none, errW_some] <;> rfl), by (with_reducible repeat (first | apply Kd.R_alloc | apply Kd.R_drewN | apply Kd.R_drew)); exact HO_5.out, by repeat (first | (with_reducible first | exact HB.out | apply below_alloc | apply pw_below_drewN | apply below_drew1) | exact HB.out)⟩

/-! ### hoodwinkref07_Right: function 42 -/
def hoodwinkref07_Right.l0 : Nat → Int → List Int → Int → Int → Option (Bool)
  | 0, _, _, _, _ => none
  | k + 1, x3, x14, x15, x16 => if x16 < x15 then (if 0 ≤ x16 then (if x16 < (x14.length : Int) then (if (wrap64 (rd x14 x16)) ≤ x3 then (some false) else (if (rd x14 x16) > 47 then (some false) else (hoodwinkref07_Right.l0 k (wrap64 (rd x14 x16)) x14 x15 (wrap64 (x16 + 1))))) else (none)) else (none)) else (some true)
def hoodwinkref07_Right.f (k : Nat) (a0_0 : Int) (a0_1 : Int) (l0_2 : List Int) (l0_3 : List (S97)) : Option (Bool) := if (l0_2.length : Int) = (l0_3.length : Int) then (hoodwinkref07_Right.l0 k (-1) l0_2 (l0_2.length : Int) 0) else (some false)
theorem hoodwinkref07_Right.mono_l : ∀ k, (∀ y0 y1 y2 y3, LeO (hoodwinkref07_Right.l0 k y0 y1 y2 y3) (hoodwinkref07_Right.l0 (k + 1) y0 y1 y2 y3))
  | 0 => fun _ _ _ _ r h => by simp [hoodwinkref07_Right.l0] at h
  | k + 1 => by
    have ih0 := hoodwinkref07_Right.mono_l k
    · intro y0 y1 y2 y3
      unfold hoodwinkref07_Right.l0
      repeat' first
      | (with_reducible exact ih0 _ _ _ _)
      | (with_reducible exact LeO.refl _)
      | (with_reducible exact LeO.none _)
      | (with_reducible refine LeO.ite ?_ ?_)
      | (with_reducible refine LeO.bind ?_ (fun _ => ?_))
      | exact ih0 _ _ _ _
      | exact LeO.none _
      | refine LeO.ite ?_ ?_
      | refine LeO.bind ?_ (fun _ => ?_)
theorem hoodwinkref07_Right.mono : ∀ a0 a1 a2 a3 k, LeO (hoodwinkref07_Right.f k a0 a1 a2 a3) (hoodwinkref07_Right.f (k + 1) a0 a1 a2 a3) := by
  intro a0 a1 a2 a3 k
  have ih0 := hoodwinkref07_Right.mono_l k
  unfold hoodwinkref07_Right.f
  repeat' first
      | (with_reducible exact ih0 _ _ _ _)
      | (with_reducible exact LeO.refl _)
      | (with_reducible exact LeO.none _)
      | (with_reducible refine LeO.ite ?_ ?_)
      | (with_reducible refine LeO.bind ?_ (fun _ => ?_))
      | exact ih0 _ _ _ _
      | exact LeO.none _
      | refine LeO.ite ?_ ?_
      | refine LeO.bind ?_ (fun _ => ?_)
set_option maxHeartbeats 8000000 in
set_option maxRecDepth 100000 in
theorem hoodwinkref07_Right.calls (k : Nat) (a0_0 : Int) (a0_1 : Int) (A0_2 : Option Addr) (c0_2 : Nat) (l0_2 : List Int) (A0_3 : Option Addr) (c0_3 : Nat) (l0_3 : List (S97)) (r : Bool) (w : World) (hr0_2 : Kd.C (Kd.int .u8) w A0_2 l0_2.length l0_2) (hc0_2 : l0_2.length ≤ c0_2) (hr0_3 : Kd.C k97 w A0_3 l0_3.length l0_3) (hc0_3 : l0_3.length ≤ c0_3) (h : hoodwinkref07_Right.f k a0_0 a0_1 l0_2 l0_3 = some r) :
    Calls Try.prog 42 #[.agg #[.int .u32 a0_0, .int .u32 a0_1, .slice A0_2 l0_2.length c0_2, .slice A0_3 l0_3.length c0_3]] w fun e w' => e = .returned (.bool r) ∧ Below w.heap.size w w' := by
  have hu37 := Try.underlying37
  have HR0_2 := Aside0.mk hr0_2
  have HC0_2 := Aside0.mk hc0_2
  clear hr0_2 hc0_2
  have HR0_3 := Aside0.mk hr0_3
  have HC0_3 := Aside0.mk hc0_3
  clear hr0_3 hc0_3
  have HB := Aside0.mk (Below.refl w.heap.size w)
  have H : (if (l0_2.length : Int) = (l0_3.length : Int) then (hoodwinkref07_Right.l0 k (-1) l0_2 (l0_2.length : Int) 0) else (some false)) = some r := h
  clear h
  by_cases c2 : (l0_2.length : Int) = (l0_3.length : Int)
  · rw [if_pos c2] at H
    have c2b0 : ((l0_2.length : Int) == (l0_3.length : Int)) = true := beq_iff_eq.mpr c2
    have c2b1 : ((l0_2.length : Int) != (l0_3.length : Int)) = false := bne_eq_false_iff_eq.mpr c2
    have c2b2 : (l0_2.length == l0_3.length) = true := by first | simpa using c2 | (simp at c2 ⊢; omega)
    clear c2
    have H' := Aside0.mk H
    clear H
    go_enter Try.func42, Try.ntmps42
    go_wp2_with (first | ((with_reducible refine gate_dst (N := 1) rfl ?_); refine box_event ?hg (N := 1) ?hd (cs := #[.int .u32 a0_0, .int .u32 a0_1, .slice A0_2 l0_2.length c0_2, .slice A0_3 l0_3.length c0_3]) (t := 37) ?hr ?_; (case hd => rfl); (case hg => rfl); (case hr => first | (go_simp; done) | (go_simp; rfl)); intro gb149 hg w3 hbox hb; have n0_ := Aside0.mk (below_step (by repeat (first | (with_reducible first | exact HB.out | apply below_alloc | apply pw_below_drewN | apply below_drew1) | exact HB.out)) hb); have n1_ := Aside0.mk (hbox); have n2_ := Aside0.mk ((by rw [hg]; exact (below_size (by repeat (first | (with_reducible first | exact HB.out | apply below_alloc | apply pw_below_drewN | apply below_drew1) | exact HB.out))) : w.heap.size ≤ gb149)); have n3_ := Aside0.mk ((by rw [hg]; exact (below_size (by repeat (first | (with_reducible first | exact HB.out | apply below_alloc | apply pw_below_drewN | apply below_drew1) | exact HB.out))) : w.heap.size ≤ gb149)); clear HB; have HB := n0_; have BK149 := n1_; have GW149 := n2_; have GE149 := n3_; clear n0_ n1_ n2_ n3_; clear hb hbox hg; have hcz4_0 : w3.cell? ⟨gb149, 0, none⟩ = some (.int .u32 a0_0) := (blk_cell BK149.out 0).trans rfl; have hcz4_1 : w3.cell? ⟨gb149, 1, none⟩ = some (.int .u32 a0_1) := (blk_cell BK149.out 1).trans rfl; have hcz4_2 : w3.cell? ⟨gb149, 2, none⟩ = some (.slice A0_2 l0_2.length c0_2) := (blk_cell BK149.out 2).trans rfl; have hcz4_3 : w3.cell? ⟨gb149, 3, none⟩ = some (.slice A0_3 l0_3.length c0_3) := (blk_cell BK149.out 3).trans rfl; have hfz4_0 := blk_frozen BK149.out 0; have hfz4_1 := blk_frozen BK149.out 1; have hfz4_2 := blk_frozen BK149.out 2; have hfz4_3 := blk_frozen BK149.out 3))
    go_loopg [3, 16] k (fun kq v3 v16 w' => ∃ (x3_1 : Int) (x16_1 : Int), v3 = .int .i64 x3_1 ∧ v16 = .int .i64 x16_1 ∧ Aside0 (hoodwinkref07_Right.l0 kq x3_1 l0_2 (l0_2.length : Int) x16_1 = some r) ∧ Aside0 (kq ≤ k) ∧ Aside0 (w'.heap[gb149]? = some (.cells #[.int .u32 a0_0, .int .u32 a0_1, (.slice A0_2 l0_2.length c0_2), (.slice A0_3 l0_3.length c0_3)] 37 (0, 0))) ∧ Aside0 (Below w.heap.size w w'))
    case atStart => exact ⟨((-1)), (0), (by first | rfl | (simp; done) | (simp [*]; done)), (by first | rfl | (simp; done) | (simp [*]; done)), H', ⟨Nat.le_refl _⟩, ⟨by (with_reducible repeat (first | refine blk_drewN ?_ _ | refine blk_drew ?_ | refine blk_alloc ?_ _)); exact BK149.out⟩, ⟨by repeat (first | (with_reducible first | exact HB.out | apply below_alloc | apply pw_below_drewN | apply below_drew1 | refine below_set ?_ GE149.out) | exact HB.out)⟩⟩
    case round =>
      clear H'
      try clear c2
      try clear c2b0
      try clear c2b1
      try clear c2b2
      try clear p2
      try clear c4
      try clear hcz4_0
      try clear hcz4_1
      try clear hcz4_2
      try clear hcz4_3
      try clear hfz4_0
      try clear hfz4_1
      try clear hfz4_2
      try clear hfz4_3
      obtain ⟨x3_1, x16_1, rfl, rfl, HA, HK1, BK149, HB⟩ := hrel
      cases gk with
      | zero => exact absurd HA.out (by simp [hoodwinkref07_Right.l0])
      | succ k1 =>
        have H := HA.out
        clear HA
        simp only [hoodwinkref07_Right.l0] at H
        by_cases c5 : x16_1 < (l0_2.length : Int)
        · rw [if_pos c5] at H
          have c5b0 : decide (x16_1 < (l0_2.length : Int)) = true := decide_eq_true c5
          clear c5
          by_cases c6 : 0 ≤ x16_1
          · rw [if_pos c6] at H
            have c6b0 : decide (0 ≤ x16_1) = true := decide_eq_true c6
            clear c6
            by_cases c7 : x16_1 < (l0_2.length : Int)
            · rw [if_pos c7] at H
              have c7b0 : decide (x16_1 < (l0_2.length : Int)) = true := decide_eq_true c7
              clear c7
              by_cases c8 : (wrap64 (rd l0_2 x16_1)) ≤ x3_1
              · rw [if_pos c8] at H
                have c8b0 : decide ((wrap64 (rd l0_2 x16_1)) ≤ x3_1) = true := decide_eq_true c8
                clear c8
                obtain rfl := Option.some.inj H
                have p150 : 0 ≤ (x16_1 : Int) := of_decide_eq_true (by first | (with_reducible assumption) | assumption)
                have q150 : x16_1 < (l0_2.length : Int) := of_decide_eq_true (by first | (with_reducible assumption) | assumption)
                obtain ⟨ad150, e150, hx150_0⟩ := Kd.at_int HR0_2.out x16_1 p150 q150
                cases e150
                replace hx150_0 := (HB.out.cell (World.block_lt_of_cell? w _ hx150_0)).trans hx150_0
                replace p150 := eq_true p150
                replace q150 := eq_true q150
                go_wp2
                go_ret
                exact ⟨by first | rfl | (simp [errW_none, errW_some] <;> rfl) | (simp [*, errW_none, errW_some] <;> rfl), by repeat (first | (with_reducible first | exact HB.out | apply below_alloc | apply pw_below_drewN | apply below_drew1 | refine below_set ?_ GE149.out) | exact HB.out)⟩
              · rw [if_neg c8] at H
                have c8b0 : decide ((wrap64 (rd l0_2 x16_1)) ≤ x3_1) = false := decide_eq_false c8
                clear c8
                by_cases c9 : (rd l0_2 x16_1) > 47
                · rw [if_pos c9] at H
                  have c9b0 : decide (47 < (rd l0_2 x16_1)) = true := decide_eq_true c9
                  clear c9
                  obtain rfl := Option.some.inj H
                  have p150 : 0 ≤ (x16_1 : Int) := of_decide_eq_true (by first | (with_reducible assumption) | assumption)
                  have q150 : x16_1 < (l0_2.length : Int) := of_decide_eq_true (by first | (with_reducible assumption) | assumption)
                  obtain ⟨ad150, e150, hx150_0⟩ := Kd.at_int HR0_2.out x16_1 p150 q150
                  cases e150
                  replace hx150_0 := (HB.out.cell (World.block_lt_of_cell? w _ hx150_0)).trans hx150_0
                  replace p150 := eq_true p150
                  replace q150 := eq_true q150
                  go_wp2
                  go_ret
                  exact ⟨by first | rfl | (simp [errW_none, errW_some] <;> rfl) | (simp [*, errW_none, errW_some] <;> rfl), by repeat (first | (with_reducible first | exact HB.out | apply below_alloc | apply pw_below_drewN | apply below_drew1 | refine below_set ?_ GE149.out) | exact HB.out)⟩
                · rw [if_neg c9] at H
                  have c9b0 : decide (47 < (rd l0_2 x16_1)) = false := decide_eq_false c9
                  clear c9
                  have H' := Aside0.mk H
                  clear H
                  have p150 : 0 ≤ (x16_1 : Int) := of_decide_eq_true (by first | (with_reducible assumption) | assumption)
                  have q150 : x16_1 < (l0_2.length : Int) := of_decide_eq_true (by first | (with_reducible assumption) | assumption)
                  obtain ⟨ad150, e150, hx150_0⟩ := Kd.at_int HR0_2.out x16_1 p150 q150
                  cases e150
                  replace hx150_0 := (HB.out.cell (World.block_lt_of_cell? w _ hx150_0)).trans hx150_0
                  replace p150 := eq_true p150
                  replace q150 := eq_true q150
                  go_wp2
                  go_roundg k1
                  case measure => have := HK1.out; omega
                  case rel => exact ⟨(wrap64 (rd l0_2 x16_1)), (wrap64 (x16_1 + 1)), (by first | rfl | (simp; done) | (simp [*]; done)), (by first | rfl | (simp; done) | (simp [*]; done)), H', ⟨by have := HK1.out; omega⟩, ⟨by (with_reducible repeat (first | refine blk_drewN ?_ _ | refine blk_drew ?_ | refine blk_alloc ?_ _)); exact BK149.out⟩, ⟨by repeat (first | (with_reducible first | exact HB.out | apply below_alloc | apply pw_below_drewN | apply below_drew1 | refine below_set ?_ GE149.out) | exact HB.out)⟩⟩
            · rw [if_neg c7] at H
              exact absurd H (by simp)
          · rw [if_neg c6] at H
            exact absurd H (by simp)
        · rw [if_neg c5] at H
          have c5b0 : decide (x16_1 < (l0_2.length : Int)) = false := decide_eq_false c5
          clear c5
          obtain rfl := Option.some.inj H
          go_wp2
          go_ret
          exact ⟨by first | rfl | (simp [errW_none, errW_some] <;> rfl) | (simp [*, errW_none, errW_some] <;> rfl), by repeat (first | (with_reducible first | exact HB.out | apply below_alloc | apply pw_below_drewN | apply below_drew1 | refine below_set ?_ GE149.out) | exact HB.out)⟩
  · rw [if_neg c2] at H
    have c2b0 : ((l0_2.length : Int) == (l0_3.length : Int)) = false := beq_eq_false_iff_ne.mpr c2
    have c2b1 : ((l0_2.length : Int) != (l0_3.length : Int)) = true := bne_iff_ne.mpr c2
    have c2b2 : (l0_2.length == l0_3.length) = false := by first | simpa using c2 | (simp at c2 ⊢; omega)
    obtain rfl := Option.some.inj H
    go_enter Try.func42, Try.ntmps42
    go_wp2_with (first | ((with_reducible refine gate_dst (N := 1) rfl ?_); refine box_event ?hg (N := 1) ?hd (cs := #[.int .u32 a0_0, .int .u32 a0_1, .slice A0_2 l0_2.length c0_2, .slice A0_3 l0_3.length c0_3]) (t := 37) ?hr ?_; (case hd => rfl); (case hg => rfl); (case hr => first | (go_simp; done) | (go_simp; rfl)); intro gb149 hg w10 hbox hb; have n0_ := Aside0.mk (below_step (by repeat (first | (with_reducible first | exact HB.out | apply below_alloc | apply pw_below_drewN | apply below_drew1) | exact HB.out)) hb); have n1_ := Aside0.mk (hbox); have n2_ := Aside0.mk ((by rw [hg]; exact (below_size (by repeat (first | (with_reducible first | exact HB.out | apply below_alloc | apply pw_below_drewN | apply below_drew1) | exact HB.out))) : w.heap.size ≤ gb149)); have n3_ := Aside0.mk ((by rw [hg]; exact (below_size (by repeat (first | (with_reducible first | exact HB.out | apply below_alloc | apply pw_below_drewN | apply below_drew1) | exact HB.out))) : w.heap.size ≤ gb149)); clear HB; have HB := n0_; have BK149 := n1_; have GW149 := n2_; have GE149 := n3_; clear n0_ n1_ n2_ n3_; clear hb hbox hg; have hcz11_0 : w10.cell? ⟨gb149, 0, none⟩ = some (.int .u32 a0_0) := (blk_cell BK149.out 0).trans rfl; have hcz11_1 : w10.cell? ⟨gb149, 1, none⟩ = some (.int .u32 a0_1) := (blk_cell BK149.out 1).trans rfl; have hcz11_2 : w10.cell? ⟨gb149, 2, none⟩ = some (.slice A0_2 l0_2.length c0_2) := (blk_cell BK149.out 2).trans rfl; have hcz11_3 : w10.cell? ⟨gb149, 3, none⟩ = some (.slice A0_3 l0_3.length c0_3) := (blk_cell BK149.out 3).trans rfl; have hfz11_0 := blk_frozen BK149.out 0; have hfz11_1 := blk_frozen BK149.out 1; have hfz11_2 := blk_frozen BK149.out 2; have hfz11_3 := blk_frozen BK149.out 3))
    go_ret
    exact ⟨by first | rfl | (simp [errW_none, errW_some] <;> rfl) | (simp [*, errW_none, errW_some] <;> rfl), by repeat (first | (with_reducible first | exact HB.out | apply below_alloc | apply pw_below_drewN | apply below_drew1 | refine below_set ?_ GE149.out) | exact HB.out)⟩

/-! ### hoodwinkref01_Value: function 51 -/
def hoodwinkref01_Value.l0 : Nat → List Int → Int → Int → Option (Int)
  | 0, _, _, _ => none
  | k + 1, x0, x3, x4 => if x4 ≥ 0 then (if 0 ≤ x4 then (if x4 < (x0.length : Int) then (hoodwinkref01_Value.l0 k x0 (IntKind.u64.wrap ((IntKind.u64.wrap (256 * x3)) + (IntKind.u64.wrap (rd x0 x4)))) (wrap64 (x4 - 1))) else (none)) else (none)) else (some x3)
def hoodwinkref01_Value.f (k : Nat) (l0 : List Int) : Option (Int) := hoodwinkref01_Value.l0 k l0 0 (wrap64 ((l0.length : Int) - 1))
theorem hoodwinkref01_Value.mono_l : ∀ k, (∀ y0 y1 y2, LeO (hoodwinkref01_Value.l0 k y0 y1 y2) (hoodwinkref01_Value.l0 (k + 1) y0 y1 y2))
  | 0 => fun _ _ _ r h => by simp [hoodwinkref01_Value.l0] at h
  | k + 1 => by
    have ih0 := hoodwinkref01_Value.mono_l k
    · intro y0 y1 y2
      unfold hoodwinkref01_Value.l0
      repeat' first
      | (with_reducible exact ih0 _ _ _)
      | (with_reducible exact LeO.refl _)
      | (with_reducible exact LeO.none _)
      | (with_reducible refine LeO.ite ?_ ?_)
      | (with_reducible refine LeO.bind ?_ (fun _ => ?_))
      | exact ih0 _ _ _
      | exact LeO.none _
      | refine LeO.ite ?_ ?_
      | refine LeO.bind ?_ (fun _ => ?_)
theorem hoodwinkref01_Value.mono : ∀ a0 k, LeO (hoodwinkref01_Value.f k a0) (hoodwinkref01_Value.f (k + 1) a0) := by
  intro a0 k
  have ih0 := hoodwinkref01_Value.mono_l k
  unfold hoodwinkref01_Value.f
  repeat' first
      | (with_reducible exact ih0 _ _ _)
      | (with_reducible exact LeO.refl _)
      | (with_reducible exact LeO.none _)
      | (with_reducible refine LeO.ite ?_ ?_)
      | (with_reducible refine LeO.bind ?_ (fun _ => ?_))
      | exact ih0 _ _ _
      | exact LeO.none _
      | refine LeO.ite ?_ ?_
      | refine LeO.bind ?_ (fun _ => ?_)
set_option maxHeartbeats 8000000 in
set_option maxRecDepth 100000 in
theorem hoodwinkref01_Value.calls (k : Nat) (A0 : Option Addr) (c0 : Nat) (l0 : List Int) (r : Int) (w : World) (hr0 : Kd.C (Kd.int .u8) w A0 l0.length l0) (hc0 : l0.length ≤ c0) (h : hoodwinkref01_Value.f k l0 = some r) :
    Calls Try.prog 51 #[.slice A0 l0.length c0] w fun e w' => e = .returned (.int .u64 r) ∧ Drawn0 w w' := by
  have HR0 := Aside0.mk hr0
  have HC0 := Aside0.mk hc0
  clear hr0 hc0
  have H : (hoodwinkref01_Value.l0 k l0 0 (wrap64 ((l0.length : Int) - 1))) = some r := h
  clear h
  have H' := Aside0.mk H
  clear H
  go_enter Try.func51, Try.ntmps51
  go_wp2
  go_loopg [3, 4] k (fun kq v3 v4 w' => ∃ (x3_1 : Int) (x4_1 : Int), v3 = .int .u64 x3_1 ∧ v4 = .int .i64 x4_1 ∧ Aside0 (hoodwinkref01_Value.l0 kq l0 x3_1 x4_1 = some r) ∧ Aside0 (kq ≤ k) ∧ Drawn0 w w')
  case atStart => exact ⟨(0), (wrap64 ((l0.length : Int) - 1)), (by first | rfl | (simp; done) | (simp [*]; done)), (by first | rfl | (simp; done) | (simp [*]; done)), H', ⟨Nat.le_refl _⟩, by repeat (first | exact Drawn0.refl _ | apply Drawn0.step)⟩
  case round =>
    clear H'
    obtain ⟨x3_1, x4_1, rfl, rfl, HA, HK1, ⟨m1, rfl⟩⟩ := hrel
    cases gk with
    | zero => exact absurd HA.out (by simp [hoodwinkref01_Value.l0])
    | succ k1 =>
      have H := HA.out
      clear HA
      simp only [hoodwinkref01_Value.l0] at H
      by_cases c2 : x4_1 ≥ 0
      · rw [if_pos c2] at H
        have c2b0 : decide (0 ≤ x4_1) = true := decide_eq_true c2
        clear c2
        by_cases c3 : 0 ≤ x4_1
        · rw [if_pos c3] at H
          have c3b0 : decide (0 ≤ x4_1) = true := decide_eq_true c3
          clear c3
          by_cases c4 : x4_1 < (l0.length : Int)
          · rw [if_pos c4] at H
            have c4b0 : decide (x4_1 < (l0.length : Int)) = true := decide_eq_true c4
            clear c4
            have H' := Aside0.mk H
            clear H
            have p247 : 0 ≤ (x4_1 : Int) := of_decide_eq_true (by first | (with_reducible assumption) | assumption)
            have q247 : x4_1 < (l0.length : Int) := of_decide_eq_true (by first | (with_reducible assumption) | assumption)
            obtain ⟨ad247, e247, hx247_0⟩ := Kd.at_int HR0.out x4_1 p247 q247
            cases e247
            replace p247 := eq_true p247
            replace q247 := eq_true q247
            go_wp2
            go_roundg k1
            case measure => have := HK1.out; omega
            case rel => exact ⟨(IntKind.u64.wrap ((IntKind.u64.wrap (256 * x3_1)) + (IntKind.u64.wrap (rd l0 x4_1)))), (wrap64 (x4_1 - 1)), (by first | rfl | (simp; done) | (simp [*]; done)), (by first | rfl | (simp; done) | (simp [*]; done)), H', ⟨by have := HK1.out; omega⟩, by repeat (first | exact Drawn0.refl _ | apply Drawn0.step)⟩
          · rw [if_neg c4] at H
            exact absurd H (by simp)
        · rw [if_neg c3] at H
          exact absurd H (by simp)
      · rw [if_neg c2] at H
        have c2b0 : decide (0 ≤ x4_1) = false := decide_eq_false c2
        clear c2
        obtain rfl := Option.some.inj H
        go_wp2
        go_ret
        exact ⟨by first | rfl | (simp; done) | (simp [*]; done), by repeat (first | exact Drawn0.refl _ | apply Drawn0.step)⟩

end Go.Proofs.Yticpjidcgaaldaa

namespace Go.Proofs.Yticpjidcgaaldaa
open Go.RowKit Go.Proofs.YticpjidcgaaldaaW.PrintWords Go.Proofs.YticpjidcgaaldaaW.PrintLast Go.Proofs.YticpjidcgaaldaaW.PrintMore
set_option linter.unusedVariables false
set_option linter.unusedSimpArgs false

end Go.Proofs.Yticpjidcgaaldaa

namespace Go.Proofs.Yticpjidcgaaldaa
open Go.RowKit Go.Proofs.YticpjidcgaaldaaW.PrintWords Go.Proofs.YticpjidcgaaldaaW.PrintLast Go.Proofs.YticpjidcgaaldaaW.PrintMore
set_option linter.unusedVariables false
set_option linter.unusedSimpArgs false

end Go.Proofs.Yticpjidcgaaldaa

namespace Go.Proofs.Yticpjidcgaaldaa
open Go.RowKit Go.Proofs.YticpjidcgaaldaaW.PrintWords Go.Proofs.YticpjidcgaaldaaW.PrintLast Go.Proofs.YticpjidcgaaldaaW.PrintMore
set_option linter.unusedVariables false
set_option linter.unusedSimpArgs false

/-- The struct and its rows. -/
def RSt (B gd : Nat) (w0 w : World) (tk hs : Int) (vP vC uP uC : Value) (P : List Int) (C : List S97) : Prop :=
  Hp B w0 w [(gd, .cells #[.int .u32 tk, .int .u32 hs, vP, vC] 37 (0, 0)), (B, .cells #[.int .u32 0, .int .u32 0, .slice none 0 0, .slice none 0 0] 37 (0, 0))] [] ∧
    (Kd.int .u8).R 5 w B (fun _ => True) uP P ∧ k97.R 97 w B (fun _ => True) uC C ∧ B ≤ gd
section
variable {B gd : Nat} {w0 w w' : World} {tk hs : Int} {vP vC uP uC u : Value} {P : List Int} {C : List S97}
theorem RSt.le (h : RSt B gd w0 w tk hs vP vC uP uC P C) : B ≤ w.heap.size := Nat.le_trans h.2.2.2 (Nat.le_of_lt (h.1.lt (i := 0) rfl))
theorem RSt.below (h : RSt B gd w0 w tk hs vP vC uP uC P C) (hb : Below w.heap.size w w') : RSt B gd w0 w' tk hs vP vC uP uC P C :=
  ⟨h.1.call hb, Kd.R_below h.2.1 hb, Kd.R_below h.2.2.1 hb, h.2.2.2⟩
theorem RSt.cellP (h : RSt B gd w0 w tk hs vP vC uP uC P C) : w.cell? ⟨gd, 2, none⟩ = some vP := blk_cell (h.1.get (i := 0) rfl) 2
theorem RSt.cellC (h : RSt B gd w0 w tk hs vP vC uP uC P C) : w.cell? ⟨gd, 3, none⟩ = some vC := blk_cell (h.1.get (i := 0) rfl) 3
theorem RSt.rowP {P' : List Int} (h : RSt B gd w0 w tk hs vP vC uP uC P C) (hg : w.grownBy w' uP.ownBlock) (hr : (Kd.int .u8).R 5 w' B (fun _ => True) u P') : RSt B gd w0 w' tk hs vP vC u uC P' C := by
  have hle := h.le
  obtain ⟨h2, h3, h4, h5⟩ := h
  have hbase : ∀ k, uP.ownBlock = some k → B ≤ k := fun k hk => Kd.R_base h3 k hk
  have hb : Below B w w' := (Below.refl B w).grown hg hle hbase
  have n1 := Kd.R_ne h3 (h2.get (i := 0) rfl) (by decide)
  have n2 := Kd.R_ne h3 (h2.get (i := 1) rfl) (by decide)
  refine ⟨h2.rows (r1 := uP.ownBlock) (r2 := none) hb ((hg.block gd (h2.lt (i := 0) rfl) n1).trans (h2.get (i := 0) rfl)) (fun k hk _ hn _ => hg.block k hk hn) (fun p hp => ?_), hr, Kd.R_grown2 h4 rfl hg (fun k hk => ?_), h5⟩
  · obtain rfl := List.mem_singleton.1 hp
    exact ⟨n2, by simp⟩
  · intro e
    exact ((Kd.R_apartR h3 h4 (by decide)).1 k hk).2 (by rw [e])
theorem RSt.rowC {C' : List S97} (h : RSt B gd w0 w tk hs vP vC uP uC P C) (hg : w.grownBy w' uC.ownBlock) (hr : k97.R 97 w' B (fun _ => True) u C') : RSt B gd w0 w' tk hs vP vC uP u P C' := by
  have hle := h.le
  obtain ⟨h2, h3, h4, h5⟩ := h
  have hbase : ∀ k, uC.ownBlock = some k → B ≤ k := fun k hk => Kd.R_base h4 k hk
  have hb : Below B w w' := (Below.refl B w).grown hg hle hbase
  have n1 := Kd.R_ne h4 (h2.get (i := 0) rfl) (by decide)
  have n2 := Kd.R_ne h4 (h2.get (i := 1) rfl) (by decide)
  refine ⟨h2.rows (r1 := uC.ownBlock) (r2 := none) hb ((hg.block gd (h2.lt (i := 0) rfl) n1).trans (h2.get (i := 0) rfl)) (fun k hk _ hn _ => hg.block k hk hn) (fun p hp => ?_), Kd.R_grown2 h3 rfl hg (fun k hk => ?_), hr, h5⟩
  · obtain rfl := List.mem_singleton.1 hp
    exact ⟨n2, by simp⟩
  · intro e
    exact ((Kd.R_apartR h3 h4 (by decide)).1 k (by rw [← e])).2 hk.symm
theorem RSt.setP (h : RSt B gd w0 w tk hs vP vC uP uC P C) : RSt B gd w0 (w.setCell ⟨gd, 2, none⟩ uP) tk hs uP vC uP uC P C := by
  obtain ⟨h2, h3, h4, h5⟩ := h
  have n1 := Kd.R_ne h3 (h2.get (i := 0) rfl) (by decide)
  have n2 := Kd.R_ne h4 (h2.get (i := 0) rfl) (by decide)
  exact ⟨h2.setCell (i := 0) rfl 2 uP, Kd.R_grown2 h3 rfl (grown_setCell _ _ _ _) (fun k hk => by cases hk; exact n1), Kd.R_grown2 h4 rfl (grown_setCell _ _ _ _) (fun k hk => by cases hk; exact n2), h5⟩
theorem RSt.setC (h : RSt B gd w0 w tk hs vP vC uP uC P C) : RSt B gd w0 (w.setCell ⟨gd, 3, none⟩ uC) tk hs vP uC uP uC P C := by
  obtain ⟨h2, h3, h4, h5⟩ := h
  have n1 := Kd.R_ne h3 (h2.get (i := 0) rfl) (by decide)
  have n2 := Kd.R_ne h4 (h2.get (i := 0) rfl) (by decide)
  exact ⟨h2.setCell (i := 0) rfl 3 uC, Kd.R_grown2 h3 rfl (grown_setCell _ _ _ _) (fun k hk => by cases hk; exact n1), Kd.R_grown2 h4 rfl (grown_setCell _ _ _ _) (fun k hk => by cases hk; exact n2), h5⟩
end
end Go.Proofs.Yticpjidcgaaldaa

namespace Go.Proofs.Yticpjidcgaaldaa
open Go.RowKit Go.Proofs.YticpjidcgaaldaaW.PrintWords Go.Proofs.YticpjidcgaaldaaW.PrintLast Go.Proofs.YticpjidcgaaldaaW.PrintMore
set_option linter.unusedVariables false
set_option linter.unusedSimpArgs false

def RfR (b : Nat) (w : World) (tk hs : Int) (P : List Int) (R : List S97) (v : Value) : Prop :=
  ∃ A c A2 c2, v = .agg #[.int .u32 tk, .int .u32 hs, .slice A P.length c, .slice A2 R.length c2] ∧ P.length ≤ c ∧ R.length ≤ c2 ∧ (Kd.int .u8).R 5 w b (fun _ => True) (.slice A P.length c) P ∧ k97.R 97 w b (fun _ => True) (.slice A2 R.length c2) R
theorem RfR.belowR {b : Nat} {w w' : World} {tk hs : Int} {P : List Int} {C : List S97} {v : Value} (h : RfR b w tk hs P C v) (hb : Below w.heap.size w w') : RfR b w' tk hs P C v := by
  obtain ⟨A, c, A2, c2, e, h1, h2, h3, h4⟩ := h
  exact ⟨A, c, A2, c2, e, h1, h2, Kd.R_below h3 hb, Kd.R_below h4 hb⟩
theorem RfR.cells {b : Nat} {w : World} {tk hs : Int} {P : List Int} {C : List S97} {v : Value} (h : RfR b w tk hs P C v) : DrC w tk hs P C v := by
  obtain ⟨A, c, A2, c2, e, k1, k2, h3, h4⟩ := h
  exact ⟨A, c, A2, c2, e, k1, k2, (Ru_C h3).2.2, (Ru_C h4).2.2⟩
end Go.Proofs.Yticpjidcgaaldaa

namespace Go.Proofs.Yticpjidcgaaldaa
open Go.RowKit Go.Proofs.YticpjidcgaaldaaW.PrintWords Go.Proofs.YticpjidcgaaldaaW.PrintLast Go.Proofs.YticpjidcgaaldaaW.PrintMore
set_option linter.unusedVariables false
set_option linter.unusedSimpArgs false

end Go.Proofs.Yticpjidcgaaldaa

namespace Go.Proofs.Yticpjidcgaaldaa
open Go.RowKit Go.Proofs.YticpjidcgaaldaaW.PrintWords Go.Proofs.YticpjidcgaaldaaW.PrintLast Go.Proofs.YticpjidcgaaldaaW.PrintMore
set_option linter.unusedVariables false
set_option linter.unusedSimpArgs false

end Go.Proofs.Yticpjidcgaaldaa

namespace Go.Proofs.Yticpjidcgaaldaa
open Go.RowKit Go.Proofs.YticpjidcgaaldaaW.PrintWords Go.Proofs.YticpjidcgaaldaaW.PrintLast Go.Proofs.YticpjidcgaaldaaW.PrintMore
set_option linter.unusedVariables false
set_option linter.unusedSimpArgs false

/-! ### Cut -/
end Go.Proofs.Yticpjidcgaaldaa

namespace Go.Proofs.Yticpjidcgaaldaa
open Go.RowKit Go.Proofs.YticpjidcgaaldaaW.PrintWords Go.Proofs.YticpjidcgaaldaaW.PrintLast Go.Proofs.YticpjidcgaaldaaW.PrintMore
set_option linter.unusedVariables false
set_option linter.unusedSimpArgs false

def TG (w w' : World) : Prop := ∃ x, w.grownBy w' x ∧ ∀ b, x = some b → ∃ cs T fr, w.heap[b]? = some (.cells cs T fr) ∧ 5 ≠ T ∧ fr = (0, 0)
theorem TG.row {w w' : World} {b : Nat} {v : Value} {P : List Int} (ht : TG w w') (h : (Kd.int .u8).R 5 w b (fun _ => True) v P) : (Kd.int .u8).R 5 w' b (fun _ => True) v P := by
  obtain ⟨x, hx, hn⟩ := ht
  refine Kd.R_grown2 h rfl hx fun k hk => ?_
  obtain ⟨cs, T, fr, h1, h2, rfl⟩ := hn k hk
  exact Kd.R_ne h h1 h2
/-- The struct's block, and the result's. -/
def SSt (B : Nat) (w0 w : World) (tk hs : Int) (vP vC : Value) : Prop :=
  Hp B w0 w [(B + 1, .cells #[.int .u32 0, .int .u32 0, .slice none 0 0, .slice none 0 0] 26 (0, 0)), (B, .cells #[.int .u32 tk, .int .u32 hs, vP, vC] 26 (0, 0))] []
theorem SSt.below {B : Nat} {w0 w w' : World} {tk hs : Int} {vP vC : Value} (h : SSt B w0 w tk hs vP vC) (hb : Below w.heap.size w w') : SSt B w0 w' tk hs vP vC := Hp.call h hb

end Go.Proofs.Yticpjidcgaaldaa

namespace Go.Proofs.Yticpjidcgaaldaa
open Go.RowKit Go.Proofs.YticpjidcgaaldaaW.PrintWords Go.Proofs.YticpjidcgaaldaaW.PrintLast Go.Proofs.YticpjidcgaaldaaW.PrintMore
set_option linter.unusedVariables false
set_option linter.unusedSimpArgs false

def I32p (n : Int) : Prop := -2147483648 ≤ n ∧ n < 2147483648
end Go.Proofs.Yticpjidcgaaldaa

namespace Go.Proofs.Yticpjidcgaaldaa
open Go.RowKit Go.Proofs.YticpjidcgaaldaaW.PrintWords Go.Proofs.YticpjidcgaaldaaW.PrintLast Go.Proofs.YticpjidcgaaldaaW.PrintMore
set_option linter.unusedVariables false
set_option linter.unusedSimpArgs false

/-- A delta that is handed in. -/
structure S26 where
  f0 : Int
  f1 : Int
  f2 : List Int
  f3 : List S59
/-- What Bytes tells of any delta. -/
def pbD (tk hs : Nat) (P : List Int) (C : List S59) : List Int := if rightB P C.length = true then dBytes tk hs P C else []
theorem pbytes7_any (tk hs : Nat) (P : List Int) (C : List S59) (v : Value) (w : World) (hv : DvC w tk hs P C v) (hP : Bytes P) (hl : P.length < 4611686018427387904) (htk : tk < 4294967296) (hhs : hs < 4294967296) (hU : ∀ x ∈ C, U32 x.f1) :
    Calls Try.prog 41 #[v] w fun e w' => ∃ v', e = .returned v' ∧ (Kd.int .u8).R 5 w' w.heap.size (fun _ => True) v' (pbD tk hs P C) ∧ Below w.heap.size w w' := by
  obtain ⟨A, c, A2, c2, rfl, h2, h3, h4, h5⟩ := hv
  unfold pbD
  by_cases hr : rightB P C.length = true
  · rw [if_pos hr]
    exact dbytes_yes tk hs A A2 _ c _ c2 P C w h4 h2 h5 h3 hr htk hhs hU
  · rw [if_neg hr]
    refine (dbytes_no tk hs A A2 _ c _ c2 P C w h4 h2 h5 h3 hP hl (by simpa using hr)).mono ?_
    rintro e w' ⟨rfl, hb⟩
    exact ⟨_, rfl, Kd.R_nil _ _ _ _ _, hb⟩
theorem dBytes_ge (tk hs : Nat) (P : List Int) (C : List S59) : 9 ≤ (dBytes tk hs P C).length := by
  unfold dBytes dHead
  simp only [List.length_append, lowN_length, List.length_cons, List.length_nil]
  omega
theorem pbD_le (tk hs : Nat) (P : List Int) (C : List S59) : (pbD tk hs P C).length ≤ 9 + 9 * P.length := by
  unfold pbD; split
  · have := dRows_len P C
    unfold dBytes dHead
    simp only [List.length_append, lowN_length, List.length_cons, List.length_nil]
    omega
  · simp
theorem pbD_pos (tk hs : Nat) (P : List Int) (C : List S59) : decide (0 < (pbD tk hs P C).length) = rightB P C.length := by
  unfold pbD
  by_cases hr : rightB P C.length = true
  · rw [if_pos hr, hr]; exact decide_eq_true (by have := dBytes_ge tk hs P C; omega)
  · rw [if_neg hr]
    have : rightB P C.length = false := by simpa using hr
    rw [this]; rfl
/-- What both Parses tell of any bytes: the same delta. -/
def tkQ (q : List Int) : Int := if okD q = true then leN (q.take 4) else 0
def hsQ (q : List Int) : Int := if okD q = true then leN ((q.drop 4).take 4) else 0
def plQ (q : List Int) : List Int := if okD q = true then pL (q.drop 9) (cntD q) else []
def clQ (q : List Int) : List S59 := if okD q = true then cL (q.drop 9) (cntD q) else []
def ecD (q : List Int) : Int := if okD q = true then 0 else 2
end Go.Proofs.Yticpjidcgaaldaa

namespace Go.Proofs.Yticpjidcgaaldaa
open Go.RowKit Go.Proofs.YticpjidcgaaldaaW.PrintWords Go.Proofs.YticpjidcgaaldaaW.PrintLast Go.Proofs.YticpjidcgaaldaaW.PrintMore
set_option linter.unusedVariables false
set_option linter.unusedSimpArgs false

theorem take_eq_succ {α : Type} {L M : List α} {i : Nat} (h : L.take i = M.take i) (hl : i < L.length) (hm : i < M.length) (he : L[i] = M[i]) : L.take (i + 1) = M.take (i + 1) := by
  rw [take_snoc hl, take_snoc hm, h, he]
set_option maxRecDepth 100000 in
set_option maxHeartbeats 8000000 in
theorem cequalG_any (A A2 : Option Addr) (n m c c2 : Nat) (L M : List S59) (w00 : World) (h1 : k59.C w00 A n L) (h2 : k59.C w00 A2 m M) (hn : n ≤ 1000000) (hm : m ≤ 1000000) (β : Bool) (hβ : β = true ↔ L = M) :
    Calls Try.prog 76 #[.slice A n c, .slice A2 m c2] w00 fun e w' => e = .returned (.bool β) ∧ Below w00.heap.size w00 w' := by
  by_cases hnm : n = m
  · subst hnm
    have HL := Aside0.mk (And.intro h1.1 h2.1)
    have HN := Aside0.mk hn
    have HF : Aside0 (∀ z, Below w00.heap.size w00 z → k59.C z A n L ∧ k59.C z A2 n M) := ⟨fun z hz => ⟨Kd.C_below h1 hz, Kd.C_below h2 hz⟩⟩
    clear h1 h2 hn hm
    obtain ⟨B, hB⟩ : ∃ B, w00.heap.size = B := ⟨_, rfl⟩
    have HB := Aside0.mk hB
    rw [hB] at HF
    rw [hB]
    have HBE := Aside0.mk hβ
    clear hB hβ
    go_enter Try.func76, Try.ntmps76
    go_wp2_with fail
    have H0 : Aside0 (Below B w00 w00 ∧ B ≤ w00.heap.size ∧ L.take 0 = M.take 0) := ⟨Below.refl _ _, by rw [HB.out]; exact Nat.le_refl _, rfl⟩
    go_loopw [13] (fun v13 wr => ∃ i : Nat, i ≤ n ∧ v13 = .int .i64 i ∧ Aside0 (Below B w00 wr ∧ B ≤ wr.heap.size ∧ L.take i = M.take i)) (fun v13 _ => n - (intOf v13).toNat)
    case atStart => exact ⟨0, by omega, rfl, H0⟩
    case round =>
      clear H0
      obtain ⟨i, hi, rfl, H⟩ := hrel
      by_cases hlt : i < n
      · have d1 : decide (i < n) = true := decide_eq_true hlt
        have hiL : i < L.length := by rw [HL.out.1]; exact hlt
        have hiM : i < M.length := by rw [HL.out.2]; exact hlt
        obtain ⟨a, hA, p0, p1⟩ := cell_at25 (HF.out wr H.out.1).1 hiL
        obtain ⟨a2, hA2, q0, q1⟩ := cell_at25 (HF.out wr H.out.1).2 hiM
        subst hA hA2
        have HX : Aside0 (L = M → L[i] = M[i]) := ⟨fun e => by subst e; rfl⟩
        have HY : Aside0 (L[i] = M[i] → L.take (i + 1) = M.take (i + 1)) := ⟨fun e => take_eq_succ H.out.2.2 hiL hiM e⟩
        generalize L[i] = x at p0 p1 HX HY
        generalize M[i] = y at q0 q1 HX HY
        obtain ⟨x0, x1⟩ := x
        obtain ⟨y0, y1⟩ := y
        have hi0 : (0 : Int) ≤ i := by omega
        have hin : (i : Int) < n := by omega
        have PP := Aside0.mk (And.intro p0 (And.intro p1 (And.intro q0 q1)))
        clear p0 p1 q0 q1
        obtain ⟨ν, hν⟩ : ∃ ν : Bool, ν = !(x0 == y0 && x1 == y1) := ⟨_, rfl⟩
        have HNU := Aside0.mk hν
        clear hν
        go_wp2_with fail
        refine region_grown (W := wr)
          [fun (w : World) (v : Value) => v = .slice (some a) n c,
           fun (w : World) (v : Value) => v = .int .i64 i,
           fun (w : World) (v : Value) => v = .pointer (some (a.add (i * 2))),
           fun (w : World) (v : Value) => v = .agg #[.int .i32 x0, .int .u32 x1],
           fun (w : World) (v : Value) => v = .slice (some a2) n c2,
           fun (w : World) (v : Value) => v = .int .i64 i,
           fun (w : World) (v : Value) => v = .pointer (some (a2.add (i * 2))),
           fun (w : World) (v : Value) => v = .agg #[.int .i32 y0, .int .u32 y1],
           fun (w : World) (v : Value) => v = .bool ν]
          (fun j =>  none)
          [(0, some 16), (1, some 17), (2, some 18), (3, some 19), (4, some 20), (5, some 21), (6, some 22), (7, some 23), (8, some 24)]
          []
          (by kernel_rfl) (by kernel_rfl) (by kernel_rfl) (by kernel_rfl) ?r6_1g ?r6_1s ⟨?r6_1o0, ?r6_1o1, ?r6_1o2, ?r6_1o3, ?r6_1o4, ?r6_1o5, ?r6_1o6, ?r6_1o7, ?r6_1o8, trivial⟩ ?r6_1e
        case r6_1g =>
          intro j hj; cases hj
        case r6_1s =>
          refine ⟨(fun w w' v hb h => h), (fun w w' v hb h => h), (fun w w' v hb h => h), (fun w w' v hb h => h), (fun w w' v hb h => h), (fun w w' v hb h => h), (fun w w' v hb h => h), (fun w w' v hb h => h), (fun w w' v hb h => h), trivial⟩
        case r6_1o0 =>
          intro vs w hb hV
          rw [if_pos (by kernel_rfl)]
          generalize hρ : rho _ _ _ vs = ρ
          have e0 : ρ (.tmp 0) = .slice (some a) n c := by rw [← hρ]; kernel_rfl
          clear hρ hV
          refine runs_val (v := .slice (some a) n c) (w' := w) ?_ ⟨Below.refl _ _, rfl⟩
          go_simp <;> (first | exact IntWalk.u64_in _ (by omega) | exact IntWalk.u32_in _ (by omega) | exact IntWalk.u16_in _ (by omega) | exact IntWalk.u8_in _ (by omega) | exact IntWalk.i64_in _ (by omega) | skip)
        case r6_1o1 =>
          intro vs w hb hV
          rw [if_pos (by kernel_rfl)]
          generalize hρ : rho _ _ _ vs = ρ
          have e5 : ρ (.tmp 5) = .int .i64 i := by rw [← hρ]; kernel_rfl
          clear hρ hV
          refine runs_val (v := .int .i64 i) (w' := w) ?_ ⟨Below.refl _ _, rfl⟩
          go_simp <;> (first | exact IntWalk.u64_in _ (by omega) | exact IntWalk.u32_in _ (by omega) | exact IntWalk.u16_in _ (by omega) | exact IntWalk.u8_in _ (by omega) | exact IntWalk.i64_in _ (by omega) | skip)
        case r6_1o2 =>
          intro vs w hb hV
          rw [if_pos (by kernel_rfl)]
          generalize hρ : rho _ _ _ vs = ρ
          have d16 : (vs 0) = .slice (some a) n c := hV 0 (by kernel_rfl)
          have e16 : ρ (.tmp 16) = vs 0 := by rw [← hρ]; kernel_rfl
          rw [d16] at e16; clear d16
          have d17 : (vs 1) = .int .i64 i := hV 1 (by kernel_rfl)
          have e17 : ρ (.tmp 17) = vs 1 := by rw [← hρ]; kernel_rfl
          rw [d17] at e17; clear d17
          clear hρ hV
          refine runs_val (v := .pointer (some (a.add (i * 2)))) (w' := w) ?_ ⟨Below.refl _ _, rfl⟩
          go_simp <;> (first | exact IntWalk.u64_in _ (by omega) | exact IntWalk.u32_in _ (by omega) | exact IntWalk.u16_in _ (by omega) | exact IntWalk.u8_in _ (by omega) | exact IntWalk.i64_in _ (by omega) | skip)
        case r6_1o3 =>
          intro vs w hb hV
          rw [if_pos (by kernel_rfl)]
          generalize hρ : rho _ _ _ vs = ρ
          have d18 : (vs 2) = .pointer (some (a.add (i * 2))) := hV 2 (by kernel_rfl)
          have e18 : ρ (.tmp 18) = vs 2 := by rw [← hρ]; kernel_rfl
          rw [d18] at e18; clear d18
          clear hρ hV
          have c0 := pw_cell_below hb PP.out.1
          have c1 := pw_cell_below hb PP.out.2.1
          refine runs_val (v := .agg #[.int .i32 x0, .int .u32 x1]) (w' := w) ?_ ⟨Below.refl _ _, rfl⟩
          go_simp
        case r6_1o4 =>
          intro vs w hb hV
          rw [if_pos (by kernel_rfl)]
          generalize hρ : rho _ _ _ vs = ρ
          have e1 : ρ (.tmp 1) = .slice (some a2) n c2 := by rw [← hρ]; kernel_rfl
          clear hρ hV
          refine runs_val (v := .slice (some a2) n c2) (w' := w) ?_ ⟨Below.refl _ _, rfl⟩
          go_simp <;> (first | exact IntWalk.u64_in _ (by omega) | exact IntWalk.u32_in _ (by omega) | exact IntWalk.u16_in _ (by omega) | exact IntWalk.u8_in _ (by omega) | exact IntWalk.i64_in _ (by omega) | skip)
        case r6_1o5 =>
          intro vs w hb hV
          rw [if_pos (by kernel_rfl)]
          generalize hρ : rho _ _ _ vs = ρ
          have e5 : ρ (.tmp 5) = .int .i64 i := by rw [← hρ]; kernel_rfl
          clear hρ hV
          refine runs_val (v := .int .i64 i) (w' := w) ?_ ⟨Below.refl _ _, rfl⟩
          go_simp <;> (first | exact IntWalk.u64_in _ (by omega) | exact IntWalk.u32_in _ (by omega) | exact IntWalk.u16_in _ (by omega) | exact IntWalk.u8_in _ (by omega) | exact IntWalk.i64_in _ (by omega) | skip)
        case r6_1o6 =>
          intro vs w hb hV
          rw [if_pos (by kernel_rfl)]
          generalize hρ : rho _ _ _ vs = ρ
          have d20 : (vs 4) = .slice (some a2) n c2 := hV 4 (by kernel_rfl)
          have e20 : ρ (.tmp 20) = vs 4 := by rw [← hρ]; kernel_rfl
          rw [d20] at e20; clear d20
          have d21 : (vs 5) = .int .i64 i := hV 5 (by kernel_rfl)
          have e21 : ρ (.tmp 21) = vs 5 := by rw [← hρ]; kernel_rfl
          rw [d21] at e21; clear d21
          clear hρ hV
          refine runs_val (v := .pointer (some (a2.add (i * 2)))) (w' := w) ?_ ⟨Below.refl _ _, rfl⟩
          go_simp <;> (first | exact IntWalk.u64_in _ (by omega) | exact IntWalk.u32_in _ (by omega) | exact IntWalk.u16_in _ (by omega) | exact IntWalk.u8_in _ (by omega) | exact IntWalk.i64_in _ (by omega) | skip)
        case r6_1o7 =>
          intro vs w hb hV
          rw [if_pos (by kernel_rfl)]
          generalize hρ : rho _ _ _ vs = ρ
          have d22 : (vs 6) = .pointer (some (a2.add (i * 2))) := hV 6 (by kernel_rfl)
          have e22 : ρ (.tmp 22) = vs 6 := by rw [← hρ]; kernel_rfl
          rw [d22] at e22; clear d22
          clear hρ hV
          have c0 := pw_cell_below hb PP.out.2.2.1
          have c1 := pw_cell_below hb PP.out.2.2.2
          refine runs_val (v := .agg #[.int .i32 y0, .int .u32 y1]) (w' := w) ?_ ⟨Below.refl _ _, rfl⟩
          go_simp
        case r6_1o8 =>
          intro vs w hb hV
          rw [if_pos (by kernel_rfl)]
          generalize hρ : rho _ _ _ vs = ρ
          have d19 : (vs 3) = .agg #[.int .i32 x0, .int .u32 x1] := hV 3 (by kernel_rfl)
          have e19 : ρ (.tmp 19) = vs 3 := by rw [← hρ]; kernel_rfl
          rw [d19] at e19; clear d19
          have d23 : (vs 7) = .agg #[.int .i32 y0, .int .u32 y1] := hV 7 (by kernel_rfl)
          have e23 : ρ (.tmp 23) = vs 7 := by rw [← hρ]; kernel_rfl
          rw [d23] at e23; clear d23
          clear hρ hV
          refine runs_val (v := .bool ν) (w' := w) ?_ ⟨Below.refl _ _, rfl⟩
          rw [HNU.out]
          go_simp
          by_cases q0 : x0 = y0 <;> by_cases q1 : x1 = y1 <;> simp [q0, q1]
        case r6_1e =>
          intro vs w2 hb2 hV
          have d16 : (vs 0) = .slice (some a) n c := hV 0 (Nat.le_of_ble_eq_true rfl)
          have d17 : (vs 1) = .int .i64 i := hV 1 (Nat.le_of_ble_eq_true rfl)
          have d18 : (vs 2) = .pointer (some (a.add (i * 2))) := hV 2 (Nat.le_of_ble_eq_true rfl)
          have d19 : (vs 3) = .agg #[.int .i32 x0, .int .u32 x1] := hV 3 (Nat.le_of_ble_eq_true rfl)
          have d20 : (vs 4) = .slice (some a2) n c2 := hV 4 (Nat.le_of_ble_eq_true rfl)
          have d21 : (vs 5) = .int .i64 i := hV 5 (Nat.le_of_ble_eq_true rfl)
          have d22 : (vs 6) = .pointer (some (a2.add (i * 2))) := hV 6 (Nat.le_of_ble_eq_true rfl)
          have d23 : (vs 7) = .agg #[.int .i32 y0, .int .u32 y1] := hV 7 (Nat.le_of_ble_eq_true rfl)
          have d24 : (vs 8) = .bool ν := hV 8 (Nat.le_of_ble_eq_true rfl)
          clear hV
          simp only [putAll]
          rw [d16, d17, d18, d19, d20, d21, d22, d23, d24]
          clear d16 d17 d18 d19 d20 d21 d22 d23 d24
          clear vs
          simp only [Act.put, List.setIfInBounds_toArray, List.set_cons_zero, List.set_cons_succ]
          have HE0 := Aside0.mk (And.intro (H.out.1.trans (hb2.mono H.out.2.1)) (Nat.le_trans H.out.2.1 hb2.size))
          clear hb2 H PP
          cases ν with
          | true =>
            have HBF : Aside0 (β = false) := ⟨by
              rw [Bool.eq_false_iff]
              intro e
              have e2 := HX.out (HBE.out.1 e)
              injection e2 with e3 e4
              have := HNU.out
              rw [e3, e4] at this
              simp at this⟩
            go_wp2_with fail
            go_ret
            rw [HBF.out]
            exact ⟨rfl, HE0.out.1⟩
          | false =>
            have HE : Aside0 (Below B w00 w2 ∧ B ≤ w2.heap.size ∧ L.take (i + 1) = M.take (i + 1)) := ⟨HE0.out.1, HE0.out.2, HY.out (by
              have := HNU.out
              simp at this
              rw [this.1, this.2])⟩
            clear HE0 HX HY HNU
            go_wp2_with fail
            go_roundw
            case rel => exact ⟨i + 1, by omega, by rw [next64 (by have := HN.out; omega)], HE⟩
            case measure => rw [next64 (by have := HN.out; omega)]; simp [intOf]; omega
      · obtain rfl : i = n := by omega
        have d1 : decide (i < i) = false := decide_eq_false (by omega)
        have HT : Aside0 (β = true) := ⟨HBE.out.2 (by have := H.out.2.2; rwa [List.take_of_length_le (by have := HL.out; omega), List.take_of_length_le (by have := HL.out; omega)] at this)⟩
        go_wp2_with fail
        go_ret
        rw [HT.out]
        exact ⟨rfl, H.out.1⟩
  · have hb : β = false := by
      rw [Bool.eq_false_iff]
      intro e
      exact hnm (by rw [← h1.1, ← h2.1, hβ.1 e])
    subst hb
    have hne : (n : Int) ≠ m := by omega
    clear h1 h2 hβ
    go_enter Try.func76, Try.ntmps76
    go_wp2_with fail
    go_ret
    exact ⟨rfl, Below.refl _ _⟩
theorem bytes_back : ∀ {a : List Int}, Bytes a → (a.map fun x => UInt8.ofNat x.toNat).map (fun b => (b.toNat : Int)) = a
  | [], _ => rfl
  | x :: l, h => by
    have hx := h x List.mem_cons_self
    rw [List.map_cons, List.map_cons, bytes_back (fun y hy => h y (List.mem_cons_of_mem _ hy))]
    congr 1
    rw [UInt8.toNat_ofNat_of_lt' (by show x.toNat < 256; omega)]
    omega
theorem strOf_inj {a b : List Int} (ha : Bytes a) (hb : Bytes b) (h : (strOfNums a).toList = (strOfNums b).toList) : a = b := by
  rw [Go.Lib.toList_data, Go.Lib.toList_data] at h
  rw [← bytes_back ha, ← bytes_back hb, Go.Lib.Lz.strOfNums_map, Go.Lib.Lz.strOfNums_map] at h
  have h2 : (a.map fun x => UInt8.ofNat x.toNat) = (b.map fun x => UInt8.ofNat x.toNat) := by simpa using h
  rw [← bytes_back ha, ← bytes_back hb, h2]
theorem bequalG_any (A B : Option Addr) (n m c d : Nat) (P Q : List Int) (w : World) (h1 : (Kd.int .u8).C w A n P) (hc : n ≤ c) (h2 : (Kd.int .u8).C w B m Q) (hd : m ≤ d) (hP : Bytes P) (hQ : Bytes Q) (β : Bool) (hβ : β = true ↔ P = Q) :
    Calls Try.prog 66 #[.slice A n c, .slice B m d] w fun e w' => e = .returned (.bool β) ∧ Below w.heap.size w w' := by
  obtain rfl := h1.1
  obtain rfl := h2.1
  refine (bytes_Equal.calls A c P B d Q β w h1 hc h2 hd (by
    unfold bytes_Equal.f
    congr 1
    rw [Bool.eq_iff_iff, hβ, beq_iff_eq]
    exact ⟨fun h => strOf_inj hP hQ h, fun h => by rw [h]⟩)).mono ?_
  rintro e w5 ⟨rfl, hb⟩
  exact ⟨rfl, by first | exact hb.below | exact hb⟩
set_option maxRecDepth 100000 in
set_option maxHeartbeats 8000000 in
theorem dsameG_any (tk hs tk' hs' : Int) (P P' : List Int) (R R' : List S59) (v u : Value) (w00 : World) (hv : DvC w00 tk hs P R v) (hu : DvC w00 tk' hs' P' R' u) (hP : Bytes P) (hP' : Bytes P') (hn : R.length ≤ 1000000) (hn' : R'.length ≤ 1000000) (β : Bool) (hβ : β = true ↔ tk = tk' ∧ hs = hs' ∧ P = P' ∧ R = R') :
    Calls Try.prog 50 #[v, u] w00 fun e w' => e = .returned (.bool β) ∧ Below w00.heap.size w00 w' := by
  obtain ⟨A, c, A2, c2, rfl, h2, h3, h4, h5⟩ := hv
  obtain ⟨B, d, B2, d2, rfl, k2, k3, k4, k5⟩ := hu
  have HC := Aside0.mk (And.intro h2 (And.intro h3 (And.intro k2 k3)))
  have HN := Aside0.mk (And.intro hn hn')
  have HPB := Aside0.mk (And.intro hP hP')
  have HBE := Aside0.mk hβ
  have HF : Aside0 (∀ z, Below w00.heap.size w00 z → (Kd.int .u8).C z A P.length P ∧ k59.C z A2 R.length R ∧ (Kd.int .u8).C z B P'.length P' ∧ k59.C z B2 R'.length R') := ⟨fun z hb => ⟨Kd.C_below h4 hb, Kd.C_below h5 hb, Kd.C_below k4 hb, Kd.C_below k5 hb⟩⟩
  have H0 := Aside0.mk (((Hp.start w00).alloc (.cells #[.int .u32 tk, .int .u32 hs, .slice A P.length c, .slice A2 R.length c2] 26)).allocAt (.cells #[.int .u32 tk', .int .u32 hs', .slice B P'.length d, .slice B2 R'.length d2] 26) (w00.heap.size + 1) (by simp))
  clear h2 h3 h4 h5 k2 k3 k4 k5 hn hn' hP hP' hβ
  generalize P.length = n at *
  generalize R.length = m at *
  generalize P'.length = n' at *
  generalize R'.length = m' at *
  go_enter Try.func50, Try.ntmps50
  go_upto_region 1 with fail
  generalize (w00.alloc (.cells #[.int .u32 tk, .int .u32 hs, .slice A n c, .slice A2 m c2] 26)).alloc (.cells #[.int .u32 tk', .int .u32 hs', .slice B n' d, .slice B2 m' d2] 26) = W at *
  obtain ⟨gd, hgd⟩ : ∃ gd, w00.heap.size = gd := ⟨_, rfl⟩
  rw [hgd] at H0 HF
  rw [hgd]
  have HGD := Aside0.mk hgd
  clear hgd
  have a0 := blk_cell (H0.out.get (i := 1) rfl) 0
  have a1 := blk_cell (H0.out.get (i := 1) rfl) 1
  have a2 := blk_cell (H0.out.get (i := 1) rfl) 2
  have b0 := blk_cell (H0.out.get (i := 0) rfl) 0
  have b1 := blk_cell (H0.out.get (i := 0) rfl) 1
  have b2 := blk_cell (H0.out.get (i := 0) rfl) 2
  by_cases e1 : tk = tk'
  · by_cases e2 : hs = hs'
    · subst e1 e2
      go_wp2_with fail
      obtain ⟨f1, f2, f3, f4⟩ := HF.out W H0.out.bel
      obtain ⟨γ, hγ⟩ : ∃ γ : Bool, γ = true ↔ P = P' := ⟨decide (P = P'), decide_eq_true_iff⟩
      have KS := Aside0.mk (bequalG_any A B n n' c d P P' W f1 HC.out.1 f3 HC.out.2.2.1 HPB.out.1 HPB.out.2 γ hγ)
      refine KS.out.mono ?_
      rintro e w1 ⟨rfl, hb1⟩
      have H1 := Aside0.mk (H0.out.call hb1)
      clear a0 a1 a2 b0 b1 b2 f1 f2 f3 f4 KS hb1 H0
      have a3 := blk_cell (H1.out.get (i := 1) rfl) 3
      have b3 := blk_cell (H1.out.get (i := 0) rfl) 3
      have HG := Aside0.mk hγ
      clear hγ
      cases γ with
      | false =>
        have HT : Aside0 (β = false) := ⟨by
          rw [Bool.eq_false_iff]
          intro e
          exact absurd (HG.out.2 (HBE.out.1 e).2.2.1) (by simp)⟩
        go_wp2_with fail
        go_ret
        rw [HGD.out, HT.out]
        exact ⟨rfl, H1.out.bel⟩
      | true =>
        have HPP := Aside0.mk (HG.out.1 rfl)
        go_wp2_with fail
        obtain ⟨f1, f2, f3, f4⟩ := HF.out w1 H1.out.bel
        have hβ2 : β = true ↔ R = R' := ⟨fun h => (HBE.out.1 h).2.2.2, fun h => HBE.out.2 (by refine ⟨?_, ?_, HPP.out, h⟩ <;> first | rfl | trivial)⟩
        have KC := Aside0.mk (cequalG_any A2 B2 m m' c2 d2 R R' w1 f2 f4 HN.out.1 HN.out.2 β hβ2)
        refine KC.out.mono ?_
        rintro e w2 ⟨rfl, hd⟩
        have H2 := Aside0.mk (H1.out.call hd)
        clear f1 f2 f3 f4 KC hd a3 b3 H1
        go_wp2_with fail
        go_ret
        rw [HGD.out]
        exact ⟨rfl, H2.out.bel⟩
    · have HT : Aside0 (β = false) := ⟨by
        rw [Bool.eq_false_iff]
        intro e
        exact e2 (HBE.out.1 e).2.1⟩
      subst e1
      go_wp2_with fail
      go_ret
      rw [HGD.out, HT.out]
      exact ⟨rfl, H0.out.bel⟩
  · have HT : Aside0 (β = false) := ⟨by
      rw [Bool.eq_false_iff]
      intro e
      exact e1 (HBE.out.1 e).1⟩
    go_wp2_with fail
    go_ret
    rw [HGD.out, HT.out]
    exact ⟨rfl, H0.out.bel⟩
end Go.Proofs.Yticpjidcgaaldaa

namespace Go.Proofs.Yticpjidcgaaldaa
open Go.RowKit Go.Proofs.YticpjidcgaaldaaW.PrintWords Go.Proofs.YticpjidcgaaldaaW.PrintLast Go.Proofs.YticpjidcgaaldaaW.PrintMore
set_option linter.unusedVariables false
set_option linter.unusedSimpArgs false

/-- A message, told: the kind, the tick, the move, the delta. -/
def MsC (w : World) (k t m tk hs : Int) (P : List Int) (C : List S59) (v : Value) : Prop :=
  ∃ A c A2 c2, v = .agg #[.int .u8 k, .int .u32 t, .int .u32 m, .int .u32 tk, .int .u32 hs, .slice A P.length c, .slice A2 C.length c2] ∧ P.length ≤ c ∧ C.length ≤ c2 ∧ (Kd.int .u8).C w A P.length P ∧ k59.C w A2 C.length C
theorem MsC.below {w w' : World} {k t m tk hs : Int} {P : List Int} {C : List S59} {v : Value} (h : MsC w k t m tk hs P C v) (hb : Below w.heap.size w w') : MsC w' k t m tk hs P C v := by
  obtain ⟨A, c, A2, c2, h1, h2, h3, h4, h5⟩ := h
  exact ⟨A, c, A2, c2, h1, h2, h3, Kd.C_below h4 hb, Kd.C_below h5 hb⟩
def isZ (tk hs : Int) (P : List Int) (C : List S59) : Bool := decide (tk = 0 ∧ hs = 0 ∧ P.length = 0 ∧ C.length = 0)
theorem isZ_iff (tk hs : Int) (P : List Int) (C : List S59) : isZ tk hs P C = true ↔ tk = 0 ∧ hs = 0 ∧ P = [] ∧ C = [] := by
  unfold isZ
  rw [decide_eq_true_iff, List.length_eq_zero_iff, List.length_eq_zero_iff]
/-- May a message be? -/
def rightM (k t m tk hs : Int) (P : List Int) (C : List S59) : Bool :=
  if k = 1 ∨ k = 3 ∨ k = 4 then isZ tk hs P C && (decide (t = 0) && decide (m = 0)) else if k = 2 then isZ tk hs P C else if k = 5 ∨ k = 6 then decide (m = 0) && (decide (tk = t) && rightB P C.length) else false
theorem msg_info (a b c d e f g : Value) : (Try.prog.info? 28).map (·.size) = some (#[a, b, c, d, e, f, g] : Array Value).size := by kernel_rfl
/-- The bounds of a message's parts. -/
def OkM (k t m tk hs : Int) (P : List Int) (C : List S59) : Prop := (0 ≤ k ∧ k < 256) ∧ (0 ≤ t ∧ t < 4294967296) ∧ (0 ≤ m ∧ m < 4294967296) ∧ (0 ≤ tk ∧ tk < 4294967296) ∧ (0 ≤ hs ∧ hs < 4294967296) ∧ Bytes P ∧ (∀ y ∈ C, I32p y.f0 ∧ U32 y.f1) ∧ P.length ≤ 1000 ∧ C.length ≤ 1000

set_option maxRecDepth 100000 in
set_option maxHeartbeats 16000000 in
theorem mright_any (k t m tk hs : Int) (P : List Int) (C : List S59) (v : Value) (w00 : World) (hv : MsC w00 k t m tk hs P C v) (hk : OkM k t m tk hs P C) :
    Calls Try.prog 37 #[v] w00 fun e w' => e = .returned (.bool (rightM k t m tk hs P C)) ∧ Below w00.heap.size w00 w' := by
  obtain ⟨A, c, A2, c2, rfl, h2, h3, h4, h5⟩ := hv
  have HOK := Aside0.mk hk
  have HD : Aside0 (∀ z, Below w00.heap.size w00 z → DvC z tk hs P C (.agg #[.int .u32 tk, .int .u32 hs, .slice A P.length c, .slice A2 C.length c2])) := ⟨fun z hz => ⟨A, c, A2, c2, rfl, h2, h3, Kd.C_below h4 hz, Kd.C_below h5 hz⟩⟩
  have HZ : Aside0 (∀ z : World, DvC z 0 0 [] [] (.agg #[.int .u32 0, .int .u32 0, .slice none 0 0, .slice none 0 0])) := ⟨fun z => ⟨none, 0, none, 0, rfl, Nat.le_refl _, Nat.le_refl _, Kd.C_nil _ _, Kd.C_nil _ _⟩⟩
  obtain ⟨n, hn⟩ : ∃ n, P.length = n := ⟨_, rfl⟩
  obtain ⟨nc, hnc⟩ : ∃ nc, C.length = nc := ⟨_, rfl⟩
  rw [hn, hnc] at HD
  rw [hn, hnc]
  obtain ⟨B, hB⟩ : ∃ B, w00.heap.size = B := ⟨_, rfl⟩
  rw [hB] at HD
  have HB := Aside0.mk hB
  have H0 := Aside0.mk ((Hp.start w00).allocAt (.cells #[.int .u8 k, .int .u32 t, .int .u32 m, .int .u32 tk, .int .u32 hs, .slice A n c, .slice A2 nc c2] 28) B hB)
  rw [hB] at H0
  obtain ⟨ζ, hζ⟩ : ∃ ζ, isZ tk hs P C = ζ := ⟨_, rfl⟩
  obtain ⟨ρ, hρ⟩ : ∃ ρ, rightM k t m tk hs P C = ρ := ⟨_, rfl⟩
  have HR := Aside0.mk hρ
  rw [hρ]
  have KD := Aside0.mk (fun (z : World) (h : Below B w00 z) => dsameG_any tk hs 0 0 P [] C [] _ _ z (HD.out z h) (HZ.out z) HOK.out.2.2.2.2.2.1 Bytes.nil (by have := HOK.out.2.2.2.2.2.2.2.2; omega) (by simp) ζ (by rw [← hζ]; exact isZ_iff tk hs P C))
  have HZE := Aside0.mk hζ
  obtain ⟨tkn, htk⟩ : ∃ x : Nat, tk = (x : Int) := ⟨tk.toNat, by have := HOK.out.2.2.2.1; omega⟩
  obtain ⟨hsn, hhs⟩ : ∃ x : Nat, hs = (x : Int) := ⟨hs.toNat, by have := HOK.out.2.2.2.2.1; omega⟩
  have HTN := Aside0.mk (And.intro htk hhs)
  have KB := Aside0.mk (fun (z : World) (h : Below B w00 z) => pbytes7_any tkn hsn P C _ z (by rw [← htk, ← hhs]; exact HD.out z h) HOK.out.2.2.2.2.2.1 (by have := HOK.out.2.2.2.2.2.2.2.1; omega) (by have := HOK.out.2.2.2.1; omega) (by have := HOK.out.2.2.2.2.1; omega) (fun y hy => (HOK.out.2.2.2.2.2.2.1 y hy).2))
  have HPOS := Aside0.mk (pbD_pos tkn hsn P C)
  obtain ⟨pb, hpb⟩ : ∃ pb, pbD tkn hsn P C = pb := ⟨_, rfl⟩
  rw [hpb] at KB HPOS
  clear hk h2 h3 h4 h5 hn hnc hζ hρ htk hhs hpb
  have c0 := blk_cell (H0.out.get (i := 0) rfl) 0
  have c1 := blk_cell (H0.out.get (i := 0) rfl) 1
  have c2' := blk_cell (H0.out.get (i := 0) rfl) 2
  have c3 := blk_cell (H0.out.get (i := 0) rfl) 3
  have c4 := blk_cell (H0.out.get (i := 0) rfl) 4
  have c5 := blk_cell (H0.out.get (i := 0) rfl) 5
  have c6 := blk_cell (H0.out.get (i := 0) rfl) 6
  go_enter Try.func37, Try.ntmps37
  go_wp2_with fail
  clear c0 c1 c2' c3 c4 c5 c6
  refine (KD.out _ H0.out.bel).mono ?_
  rintro e w1 ⟨rfl, hb1⟩
  have H1 := Aside0.mk (H0.out.call hb1)
  clear hb1 H0 KD
  have c0 := blk_cell (H1.out.get (i := 0) rfl) 0
  have c1 := blk_cell (H1.out.get (i := 0) rfl) 1
  have c2' := blk_cell (H1.out.get (i := 0) rfl) 2
  have c3 := blk_cell (H1.out.get (i := 0) rfl) 3
  have c4 := blk_cell (H1.out.get (i := 0) rfl) 4
  have c5 := blk_cell (H1.out.get (i := 0) rfl) 5
  have c6 := blk_cell (H1.out.get (i := 0) rfl) 6
  by_cases h1 : k = 1
  · subst h1
    cases ζ with
    | false =>
      have HRV : Aside0 (ρ = false) := ⟨by rw [← HR.out]; unfold rightM; rw [if_pos (by omega), HZE.out]; rfl⟩
      go_wp2_with fail
      go_ret
      rw [HB.out, HRV.out]
      exact ⟨rfl, H1.out.bel⟩
    | true =>
      by_cases ht : t = 0
      · subst ht
        by_cases hm : m = 0
        · subst hm
          have HRV : Aside0 (ρ = true) := ⟨by rw [← HR.out]; unfold rightM; rw [if_pos (by omega), HZE.out]; simp⟩
          go_wp2_with fail
          go_ret
          rw [HB.out, HRV.out]
          exact ⟨rfl, H1.out.bel⟩
        · have hm2 : (m == 0) = false := by simpa using hm
          have HRV : Aside0 (ρ = false) := ⟨by rw [← HR.out]; unfold rightM; rw [if_pos (by omega), HZE.out, decide_eq_false hm]; simp⟩
          go_wp2_with fail
          go_ret
          rw [HB.out, HRV.out]
          exact ⟨rfl, H1.out.bel⟩
      · have HRV : Aside0 (ρ = false) := ⟨by rw [← HR.out]; unfold rightM; rw [if_pos (by omega), HZE.out, decide_eq_false ht]; simp⟩
        go_wp2_with fail
        go_ret
        rw [HB.out, HRV.out]
        exact ⟨rfl, H1.out.bel⟩
  · skip
    by_cases h3 : k = 3
    · subst h3
      cases ζ with
      | false =>
        have HRV : Aside0 (ρ = false) := ⟨by rw [← HR.out]; unfold rightM; rw [if_pos (by omega), HZE.out]; rfl⟩
        go_wp2_with fail
        go_ret
        rw [HB.out, HRV.out]
        exact ⟨rfl, H1.out.bel⟩
      | true =>
        by_cases ht : t = 0
        · subst ht
          by_cases hm : m = 0
          · subst hm
            have HRV : Aside0 (ρ = true) := ⟨by rw [← HR.out]; unfold rightM; rw [if_pos (by omega), HZE.out]; simp⟩
            go_wp2_with fail
            go_ret
            rw [HB.out, HRV.out]
            exact ⟨rfl, H1.out.bel⟩
          · have hm2 : (m == 0) = false := by simpa using hm
            have HRV : Aside0 (ρ = false) := ⟨by rw [← HR.out]; unfold rightM; rw [if_pos (by omega), HZE.out, decide_eq_false hm]; simp⟩
            go_wp2_with fail
            go_ret
            rw [HB.out, HRV.out]
            exact ⟨rfl, H1.out.bel⟩
        · have HRV : Aside0 (ρ = false) := ⟨by rw [← HR.out]; unfold rightM; rw [if_pos (by omega), HZE.out, decide_eq_false ht]; simp⟩
          go_wp2_with fail
          go_ret
          rw [HB.out, HRV.out]
          exact ⟨rfl, H1.out.bel⟩
    · skip
      by_cases h4 : k = 4
      · subst h4
        cases ζ with
        | false =>
          have HRV : Aside0 (ρ = false) := ⟨by rw [← HR.out]; unfold rightM; rw [if_pos (by omega), HZE.out]; rfl⟩
          go_wp2_with fail
          go_ret
          rw [HB.out, HRV.out]
          exact ⟨rfl, H1.out.bel⟩
        | true =>
          by_cases ht : t = 0
          · subst ht
            by_cases hm : m = 0
            · subst hm
              have HRV : Aside0 (ρ = true) := ⟨by rw [← HR.out]; unfold rightM; rw [if_pos (by omega), HZE.out]; simp⟩
              go_wp2_with fail
              go_ret
              rw [HB.out, HRV.out]
              exact ⟨rfl, H1.out.bel⟩
            · have hm2 : (m == 0) = false := by simpa using hm
              have HRV : Aside0 (ρ = false) := ⟨by rw [← HR.out]; unfold rightM; rw [if_pos (by omega), HZE.out, decide_eq_false hm]; simp⟩
              go_wp2_with fail
              go_ret
              rw [HB.out, HRV.out]
              exact ⟨rfl, H1.out.bel⟩
          · have HRV : Aside0 (ρ = false) := ⟨by rw [← HR.out]; unfold rightM; rw [if_pos (by omega), HZE.out, decide_eq_false ht]; simp⟩
            go_wp2_with fail
            go_ret
            rw [HB.out, HRV.out]
            exact ⟨rfl, H1.out.bel⟩
      · skip
        by_cases h2 : k = 2
        · subst h2
          have HRV : Aside0 (ρ = ζ) := ⟨by rw [← HR.out]; unfold rightM; rw [if_neg (by omega), if_pos rfl]; exact HZE.out⟩
          go_wp2_with fail
          go_ret
          rw [HB.out, HRV.out]
          exact ⟨rfl, H1.out.bel⟩
        · skip
          by_cases h5 : k = 5
          · subst h5
            by_cases hm : m = 0
            · subst hm
              by_cases ht : tk = t
              · subst ht
                clear HZE
                go_wp2_with fail
                refine (KB.out _ H1.out.bel).mono ?_
                rintro e w2 ⟨v2, rfl, hv2, hb2⟩
                obtain ⟨Ab, cb, rfl, hcb, _⟩ := Kd.R_reads hv2
                have H2 := Aside0.mk (H1.out.call hb2)
                clear hv2 hb2 H1 c0 c1 c2' c3 c4 c5 c6
                obtain ⟨pl, hpl⟩ : ∃ pl, pb.length = pl := ⟨_, rfl⟩
                rw [hpl] at HPOS
                rw [hpl]
                clear hpl
                have HRV : Aside0 (ρ = rightB P C.length) := ⟨by rw [← HR.out]; unfold rightM; rw [if_neg (by omega), if_neg (by omega), if_pos (by omega)]; simp⟩
                cases hr : rightB P C.length with
                | true =>
                  rw [hr] at HPOS HRV
                  have hp0 : (0 : Int) < pl := by have := of_decide_eq_true HPOS.out; omega
                  have hp1 : decide (0 < pl) = true := HPOS.out
                  clear hr
                  go_wp2_with fail
                  go_ret
                  rw [HB.out, HRV.out]
                  exact ⟨rfl, H2.out.bel⟩
                | false =>
                  rw [hr] at HPOS HRV
                  have hp0 : ¬ (0 : Int) < pl := by have := of_decide_eq_false HPOS.out; omega
                  have hp1 : decide (0 < pl) = false := HPOS.out
                  clear hr
                  go_wp2_with fail
                  go_ret
                  rw [HB.out, HRV.out]
                  exact ⟨rfl, H2.out.bel⟩
              · have HRV : Aside0 (ρ = false) := ⟨by rw [← HR.out]; unfold rightM; rw [if_neg (by omega), if_neg (by omega), if_pos (by omega), decide_eq_false ht]; simp⟩
                go_wp2_with fail
                go_ret
                rw [HB.out, HRV.out]
                exact ⟨rfl, H1.out.bel⟩
            · have HRV : Aside0 (ρ = false) := ⟨by rw [← HR.out]; unfold rightM; rw [if_neg (by omega), if_neg (by omega), if_pos (by omega), decide_eq_false hm]; simp⟩
              go_wp2_with fail
              go_ret
              rw [HB.out, HRV.out]
              exact ⟨rfl, H1.out.bel⟩
          · skip
            by_cases h6 : k = 6
            · subst h6
              by_cases hm : m = 0
              · subst hm
                by_cases ht : tk = t
                · subst ht
                  clear HZE
                  go_wp2_with fail
                  refine (KB.out _ H1.out.bel).mono ?_
                  rintro e w2 ⟨v2, rfl, hv2, hb2⟩
                  obtain ⟨Ab, cb, rfl, hcb, _⟩ := Kd.R_reads hv2
                  have H2 := Aside0.mk (H1.out.call hb2)
                  clear hv2 hb2 H1 c0 c1 c2' c3 c4 c5 c6
                  obtain ⟨pl, hpl⟩ : ∃ pl, pb.length = pl := ⟨_, rfl⟩
                  rw [hpl] at HPOS
                  rw [hpl]
                  clear hpl
                  have HRV : Aside0 (ρ = rightB P C.length) := ⟨by rw [← HR.out]; unfold rightM; rw [if_neg (by omega), if_neg (by omega), if_pos (by omega)]; simp⟩
                  cases hr : rightB P C.length with
                  | true =>
                    rw [hr] at HPOS HRV
                    have hp0 : (0 : Int) < pl := by have := of_decide_eq_true HPOS.out; omega
                    have hp1 : decide (0 < pl) = true := HPOS.out
                    clear hr
                    go_wp2_with fail
                    go_ret
                    rw [HB.out, HRV.out]
                    exact ⟨rfl, H2.out.bel⟩
                  | false =>
                    rw [hr] at HPOS HRV
                    have hp0 : ¬ (0 : Int) < pl := by have := of_decide_eq_false HPOS.out; omega
                    have hp1 : decide (0 < pl) = false := HPOS.out
                    clear hr
                    go_wp2_with fail
                    go_ret
                    rw [HB.out, HRV.out]
                    exact ⟨rfl, H2.out.bel⟩
                · have HRV : Aside0 (ρ = false) := ⟨by rw [← HR.out]; unfold rightM; rw [if_neg (by omega), if_neg (by omega), if_pos (by omega), decide_eq_false ht]; simp⟩
                  go_wp2_with fail
                  go_ret
                  rw [HB.out, HRV.out]
                  exact ⟨rfl, H1.out.bel⟩
              · have HRV : Aside0 (ρ = false) := ⟨by rw [← HR.out]; unfold rightM; rw [if_neg (by omega), if_neg (by omega), if_pos (by omega), decide_eq_false hm]; simp⟩
                go_wp2_with fail
                go_ret
                rw [HB.out, HRV.out]
                exact ⟨rfl, H1.out.bel⟩
            · skip
              have HRV : Aside0 (ρ = false) := ⟨by rw [← HR.out]; unfold rightM; rw [if_neg (by omega), if_neg (by omega), if_neg (by omega)]⟩
              go_wp2_with fail
              go_ret
              rw [HB.out, HRV.out]
              exact ⟨rfl, H1.out.bel⟩
end Go.Proofs.Yticpjidcgaaldaa

namespace Go.Proofs.Yticpjidcgaaldaa
open Go.RowKit Go.Proofs.YticpjidcgaaldaaW.PrintWords Go.Proofs.YticpjidcgaaldaaW.PrintLast Go.Proofs.YticpjidcgaaldaaW.PrintMore
set_option linter.unusedVariables false
set_option linter.unusedSimpArgs false

/-- The bytes of a message that may be. -/
def mSay (k t m tk hs : Int) (P : List Int) (C : List S59) : List Int :=
  if k = 2 then [k] ++ lowN t.toNat 4 ++ lowN m.toNat 4 else if k = 5 ∨ k = 6 then [k] ++ pbD tk.toNat hs.toNat P C else [k]
def mBytes (k t m tk hs : Int) (P : List Int) (C : List S59) : List Int := if rightM k t m tk hs P C = true then mSay k t m tk hs P C else []

set_option maxRecDepth 100000 in
set_option maxHeartbeats 16000000 in
theorem mbytes_any (k t m tk hs : Int) (P : List Int) (C : List S59) (v : Value) (w00 : World) (hv : MsC w00 k t m tk hs P C v) (hk : OkM k t m tk hs P C) :
    Calls Try.prog 13 #[v] w00 fun e w' => ∃ v', e = .returned v' ∧ (Kd.int .u8).R 5 w' w00.heap.size (fun _ => True) v' (mBytes k t m tk hs P C) ∧ Below w00.heap.size w00 w' := by
  have KR := Aside0.mk (fun (z : World) (h : Below w00.heap.size w00 z) => mright_any k t m tk hs P C v z (hv.below h) hk)
  obtain ⟨A, c, A2, c2, rfl, h2, h3, h4, h5⟩ := hv
  have HOK := Aside0.mk hk
  have HD : Aside0 (∀ z, Below w00.heap.size w00 z → DvC z tk hs P C (.agg #[.int .u32 tk, .int .u32 hs, .slice A P.length c, .slice A2 C.length c2])) := ⟨fun z hz => ⟨A, c, A2, c2, rfl, h2, h3, Kd.C_below h4 hz, Kd.C_below h5 hz⟩⟩
  obtain ⟨n, hn⟩ : ∃ n, P.length = n := ⟨_, rfl⟩
  obtain ⟨nc, hnc⟩ : ∃ nc, C.length = nc := ⟨_, rfl⟩
  rw [hn, hnc] at HD KR
  rw [hn, hnc]
  obtain ⟨B, hB⟩ : ∃ B, w00.heap.size = B := ⟨_, rfl⟩
  rw [hB] at HD KR
  have HB := Aside0.mk hB
  have H0 := Aside0.mk ((Hp.start w00).allocAt (.cells #[.int .u8 k, .int .u32 t, .int .u32 m, .int .u32 tk, .int .u32 hs, .slice A n c, .slice A2 nc c2] 28) B hB)
  rw [hB] at H0
  obtain ⟨tn, htn⟩ : ∃ x : Nat, t = (x : Int) := ⟨t.toNat, by have := HOK.out.2.1; omega⟩
  obtain ⟨mn, hmn⟩ : ∃ x : Nat, m = (x : Int) := ⟨m.toNat, by have := HOK.out.2.2.1; omega⟩
  obtain ⟨tkn, htk⟩ : ∃ x : Nat, tk = (x : Int) := ⟨tk.toNat, by have := HOK.out.2.2.2.1; omega⟩
  obtain ⟨hsn, hhs⟩ : ∃ x : Nat, hs = (x : Int) := ⟨hs.toNat, by have := HOK.out.2.2.2.2.1; omega⟩
  have HTN : Aside0 (t = tn ∧ m = mn ∧ tn < 4294967296 ∧ mn < 4294967296) := ⟨htn, hmn, by have := HOK.out.2.1; omega, by have := HOK.out.2.2.1; omega⟩
  have KB := Aside0.mk (fun (z : World) (h : Below B w00 z) => pbytes7_any tkn hsn P C _ z (by rw [← htk, ← hhs]; exact HD.out z h) HOK.out.2.2.2.2.2.1 (by have := HOK.out.2.2.2.2.2.2.2.1; omega) (by have := HOK.out.2.2.2.1; omega) (by have := HOK.out.2.2.2.2.1; omega) (fun y hy => (HOK.out.2.2.2.2.2.2.1 y hy).2))
  have HPN := Aside0.mk hn
  obtain ⟨pb, hpb⟩ : ∃ pb, pbD tkn hsn P C = pb := ⟨_, rfl⟩
  rw [hpb] at KB
  have HPL : Aside0 (pb.length ≤ 9009) := ⟨by rw [← hpb]; have := pbD_le tkn hsn P C; have := HOK.out.2.2.2.2.2.2.2.1; omega⟩
  obtain ⟨mb, hmb⟩ : ∃ mb, mBytes k t m tk hs P C = mb := ⟨_, rfl⟩
  rw [hmb]
  obtain ⟨ρ, hρ⟩ : ∃ ρ, rightM k t m tk hs P C = ρ := ⟨_, rfl⟩
  have HMB : Aside0 (mb = if ρ = true then (if k = 2 then [k] ++ lowN tn 4 ++ lowN mn 4 else if k = 5 ∨ k = 6 then [k] ++ pb else [k]) else []) := ⟨by
    rw [← hmb, ← hρ, ← hpb]
    unfold mBytes mSay
    rw [show t.toNat = tn by omega, show m.toNat = mn by omega, show tk.toNat = tkn by omega, show hs.toNat = hsn by omega]⟩
  rw [hρ] at KR
  clear hk h2 h3 h4 h5 hn hnc htk hhs hpb hmb hρ htn hmn
  go_enter Try.func13, Try.ntmps13
  go_wp2_with (first | (refine wpList_load_row_g 28 (.tmp 1) rfl B rfl rfl 28 _ (0, 0) _ (H0.out.get (i := 0) rfl) Try.underlying28 rfl (msg_info _ _ _ _ _ _ _) ?_))
  refine (KR.out _ H0.out.bel).mono ?_
  rintro e V0 ⟨rfl, hb1⟩
  have H1 := Aside0.mk (H0.out.call hb1)
  clear hb1 H0 KR
  cases ρ with
  | false =>
    have HE : Aside0 (mb = []) := ⟨by rw [HMB.out]; rfl⟩
    clear HMB
    go_wp2_with fail
    go_ret
    rw [HE.out, HB.out]
    exact ⟨_, rfl, Kd.R_nil _ _ _ _ _, H1.out.bel⟩
  | true =>
    rw [if_pos rfl] at HMB
    obtain ⟨gp, hgp⟩ : ∃ gp, V0.heap.size = gp := ⟨_, rfl⟩
    have GD : Aside0 (B < gp) := ⟨by rw [← hgp]; exact H1.out.lt (i := 0) rfl⟩
    have hP0 : Pn (V0.alloc (.cells #[.slice none 0 0] 91)) gp gp [] (.slice none 0 0) := ⟨by rw [← hgp]; exact blk_new _ _, Kd.R_nil _ _ _ _ _⟩
    have HP0 := Aside0.mk hP0
    have HB0 : Aside0 (Below gp V0 (V0.alloc (.cells #[.slice none 0 0] 91))) := ⟨by rw [← hgp]; exact below_alloc (Below.refl _ _) _⟩
    have HG0 := Aside0.mk (H1.out.get (i := 0) rfl)
    have HW0 : Aside0 (∀ z, Below gp V0 z → Below B w00 z) := ⟨fun z hz => H1.out.bel.trans (hz.mono (Nat.le_of_lt GD.out))⟩
    clear hP0 H1
    have c0 : ∀ z, Below gp V0 z → z.cell? ⟨B, 0, none⟩ = some (.int .u8 k) := fun z hz => blk_cell ((hz.block B GD.out).trans HG0.out) 0
    have c1 : ∀ z, Below gp V0 z → z.cell? ⟨B, 1, none⟩ = some (.int .u32 t) := fun z hz => blk_cell ((hz.block B GD.out).trans HG0.out) 1
    have c2' : ∀ z, Below gp V0 z → z.cell? ⟨B, 2, none⟩ = some (.int .u32 m) := fun z hz => blk_cell ((hz.block B GD.out).trans HG0.out) 2
    have c3 : ∀ z, Below gp V0 z → z.cell? ⟨B, 3, none⟩ = some (.int .u32 tk) := fun z hz => blk_cell ((hz.block B GD.out).trans HG0.out) 3
    have c4 : ∀ z, Below gp V0 z → z.cell? ⟨B, 4, none⟩ = some (.int .u32 hs) := fun z hz => blk_cell ((hz.block B GD.out).trans HG0.out) 4
    have c5 : ∀ z, Below gp V0 z → z.cell? ⟨B, 5, none⟩ = some (.slice A n c) := fun z hz => blk_cell ((hz.block B GD.out).trans HG0.out) 5
    have c6 : ∀ z, Below gp V0 z → z.cell? ⟨B, 6, none⟩ = some (.slice A2 nc c2) := fun z hz => blk_cell ((hz.block B GD.out).trans HG0.out) 6
    have HCL := Aside0.mk (And.intro c0 (And.intro c1 (And.intro c2' (And.intro c3 (And.intro c4 (And.intro c5 c6))))))
    clear c0 c1 c2' c3 c4 c5 c6
    have HGP := Aside0.mk hgp
    clear hgp
    have c0 := HCL.out.1 _ HB0.out
    go_wp2_with fail
    clear c0
    rw [HGP.out]
    refine (pbyte_any gp gp [] _ k _ HP0.out (Nat.le_refl _) (by simp)).mono ?_
    rintro e V1 ⟨v1, rfl, h1⟩
    have HP1 : Aside0 (Pn V1 gp gp [k] v1) := ⟨h1.1⟩
    have HB1 := Aside0.mk (HB0.out.trans h1.2.2.2)
    clear h1 HP0 HB0
    have c0 := HCL.out.1 _ HB1.out
    by_cases h2 : k = 2
    · subst h2
      have HE : Aside0 (mb = [2] ++ lowN tn 4 ++ lowN mn 4) := ⟨HMB.out⟩
      clear HMB
      go_wp2_with fail
      clear c0
      obtain ⟨e1, e2, HTN2, HTN3⟩ := HTN.out
      subst e1 e2
      refine regionS (W := V1)
        [fun _ v => v = .pointer (some ⟨B, 1, none⟩),
         fun _ v => v = .int .u32 tn,
         fun _ v => v = .pointer (some ⟨gp, 0, none⟩),
         fun _ v => v = .pointer (some ⟨B, 2, none⟩),
         fun _ v => v = .int .u32 mn,
         fun _ v => v = .pointer (some ⟨gp, 0, none⟩)]
        [2, 5]
        (fun t => match t with | 0 => fun (rs : List Value) (w : World) => ∃ v, Pn w gp gp [2] v | 1 => fun (rs : List Value) (w : World) => ∃ v, Pn w gp gp ([2] ++ lowN tn 4) v | 2 => fun (rs : List Value) (w : World) => ∃ v, Pn w gp gp ([2] ++ lowN tn 4 ++ lowN mn 4) v | _ => fun _ _ => False)
        (fun _ _ _ => True) (fun w => Below gp V0 w ∧ gp ≤ w.heap.size)
        (fun j =>  none)
        [(0, some 14), (1, some 15), (2, some 16), (3, some 17), (4, some 18), (5, some 19)]
        []
        (by kernel_rfl) (by kernel_rfl) (by kernel_rfl) (by kernel_rfl) (by kernel_rfl) ?z7_1c ?z7_1i ?z7_1b ?z7_1d ?z7_1g ⟨?z7_1t0, ?z7_1t1, ?z7_1t2, ?z7_1t3, ?z7_1t4, ?z7_1t5, trivial⟩ ⟨?z7_1o0, ?z7_1o1, ?z7_1o2, ?z7_1o3, ?z7_1o4, ?z7_1o5, trivial⟩ ?z7_1e
      case z7_1c => exact ⟨HB1.out.trans (below_drew (Below.refl _ _)), Nat.le_of_lt (blk_lt HP1.out.1)⟩
      case z7_1i => exact ⟨_, HP1.out⟩
      case z7_1b => intro w w' hb h; exact ⟨h.1.trans (hb.mono h.2), Nat.le_trans h.2 hb.size⟩
      case z7_1d =>
        intro t rs w w' hb h
        match t, h with
        | 0, h => (replace h : ∃ v, Pn w gp gp [2] v := h); show ∃ v, Pn w' gp gp [2] v; (obtain ⟨v, h⟩ := h; exact ⟨v, h.below hb⟩)
        | 1, h => (replace h : ∃ v, Pn w gp gp ([2] ++ lowN tn 4) v := h); show ∃ v, Pn w' gp gp ([2] ++ lowN tn 4) v; (obtain ⟨v, h⟩ := h; exact ⟨v, h.below hb⟩)
        | 2, h => (replace h : ∃ v, Pn w gp gp ([2] ++ lowN tn 4 ++ lowN mn 4) v := h); show ∃ v, Pn w' gp gp ([2] ++ lowN tn 4 ++ lowN mn 4) v; (obtain ⟨v, h⟩ := h; exact ⟨v, h.below hb⟩)
        | _ + 3, h => exact h.elim
      case z7_1g =>
        intro j hj; cases hj
      case z7_1t0 => exact StabS.const _ _ _ _
      case z7_1t1 => exact StabS.const _ _ _ _
      case z7_1t2 => exact StabS.const _ _ _ _
      case z7_1t3 => exact StabS.const _ _ _ _
      case z7_1t4 => exact StabS.const _ _ _ _
      case z7_1t5 => exact StabS.const _ _ _ _
      case z7_1o0 =>
        intro vs w t hC ht1 ht2 hS hV
        rw [if_pos (by kernel_rfl)]
        generalize hρ : rho _ _ _ vs = ρ
        have e1 : ρ (.tmp 1) = .pointer (some ⟨B, 0, none⟩) := by rw [← hρ]; kernel_rfl
        clear hρ hV
        refine runs_val (v := .pointer (some ⟨B, 1, none⟩)) (w' := w) ?_ ⟨Below.refl _ _, rfl⟩
        clear ht1 ht2 hS hC
        go_simp <;> (first | exact IntWalk.u64_in _ (by omega) | exact IntWalk.u32_in _ (by omega) | exact IntWalk.u16_in _ (by omega) | exact IntWalk.u8_in _ (by omega) | exact IntWalk.i64_in _ (by omega) | skip)
      case z7_1o1 =>
        intro vs w t hC ht1 ht2 hS hV
        rw [if_pos (by kernel_rfl)]
        generalize hρ : rho _ _ _ vs = ρ
        have d14 : (vs 0) = .pointer (some ⟨B, 1, none⟩) := hV 0 (by kernel_rfl)
        have e14 : ρ (.tmp 14) = vs 0 := by rw [← hρ]; kernel_rfl
        rw [d14] at e14; clear d14
        clear hρ hV
        have c0 := HCL.out.2.1 w hC.1
        refine runs_val (v := .int .u32 tn) (w' := w) ?_ ⟨Below.refl _ _, rfl⟩
        clear ht1 ht2 hS hC
        go_simp
      case z7_1o2 =>
        intro vs w hC hS hV
        replace hS : ∃ v, Pn w gp gp [2] v := hS
        rw [if_pos (by kernel_rfl)]
        generalize hρ : rho _ _ _ vs = ρ
        have e3 : ρ (.tmp 3) = .pointer (some ⟨gp, 0, none⟩) := by rw [← hρ]; kernel_rfl
        have d15 : (vs 1) = .int .u32 tn := hV 1 (by kernel_rfl)
        have e15 : ρ (.tmp 15) = vs 1 := by rw [← hρ]; kernel_rfl
        rw [d15] at e15; clear d15
        have ef39 : ρ (.func 39) = .func (.func 39) #[] #[] := by rw [← hρ]; rfl
        clear hρ hV
        obtain ⟨v, hp⟩ := hS
        refine runs_call (f := 39) (args := #[.pointer (some ⟨gp, 0, none⟩), .int .u32 tn]) (w' := w) ?_ ?_
        · go_simp
        · refine (pword_any gp gp [2] v tn HTN2 w hp (Nat.le_refl _) (by simp)).mono ?_
          rintro e w5 ⟨v', rfl, h⟩
          exact ⟨_, rfl, ⟨hC.1.trans h.2.2.2, Nat.le_trans hC.2 h.2.1.1⟩, trivial, rfl, ⟨v', h.1⟩⟩
      case z7_1o3 =>
        intro vs w t hC ht1 ht2 hS hV
        rw [if_pos (by kernel_rfl)]
        generalize hρ : rho _ _ _ vs = ρ
        have e1 : ρ (.tmp 1) = .pointer (some ⟨B, 0, none⟩) := by rw [← hρ]; kernel_rfl
        clear hρ hV
        refine runs_val (v := .pointer (some ⟨B, 2, none⟩)) (w' := w) ?_ ⟨Below.refl _ _, rfl⟩
        clear ht1 ht2 hS hC
        go_simp <;> (first | exact IntWalk.u64_in _ (by omega) | exact IntWalk.u32_in _ (by omega) | exact IntWalk.u16_in _ (by omega) | exact IntWalk.u8_in _ (by omega) | exact IntWalk.i64_in _ (by omega) | skip)
      case z7_1o4 =>
        intro vs w t hC ht1 ht2 hS hV
        rw [if_pos (by kernel_rfl)]
        generalize hρ : rho _ _ _ vs = ρ
        have d17 : (vs 3) = .pointer (some ⟨B, 2, none⟩) := hV 3 (by kernel_rfl)
        have e17 : ρ (.tmp 17) = vs 3 := by rw [← hρ]; kernel_rfl
        rw [d17] at e17; clear d17
        clear hρ hV
        have c0 := HCL.out.2.2.1 w hC.1
        refine runs_val (v := .int .u32 mn) (w' := w) ?_ ⟨Below.refl _ _, rfl⟩
        clear ht1 ht2 hS hC
        go_simp
      case z7_1o5 =>
        intro vs w hC hS hV
        replace hS : ∃ v, Pn w gp gp ([2] ++ lowN tn 4) v := hS
        rw [if_pos (by kernel_rfl)]
        generalize hρ : rho _ _ _ vs = ρ
        have d16 : (vs 2) = .pointer (some ⟨gp, 0, none⟩) := hV 2 (by kernel_rfl)
        have e16 : ρ (.tmp 16) = vs 2 := by rw [← hρ]; kernel_rfl
        rw [d16] at e16; clear d16
        have d18 : (vs 4) = .int .u32 mn := hV 4 (by kernel_rfl)
        have e18 : ρ (.tmp 18) = vs 4 := by rw [← hρ]; kernel_rfl
        rw [d18] at e18; clear d18
        have ef39 : ρ (.func 39) = .func (.func 39) #[] #[] := by rw [← hρ]; rfl
        clear hρ hV
        obtain ⟨v, hp⟩ := hS
        refine runs_call (f := 39) (args := #[.pointer (some ⟨gp, 0, none⟩), .int .u32 mn]) (w' := w) ?_ ?_
        · go_simp
        · refine (pword_any gp gp ([2] ++ lowN tn 4) v mn HTN3 w hp (Nat.le_refl _) (by rw [List.length_append, lowN_length]; simp)).mono ?_
          rintro e w5 ⟨v', rfl, h⟩
          exact ⟨_, rfl, ⟨hC.1.trans h.2.2.2, Nat.le_trans hC.2 h.2.1.1⟩, trivial, rfl, ⟨v', h.1⟩⟩
      case z7_1e =>
        intro vs V2 hC hS hV
        replace hS : (fun (w : World) => ∃ v, Pn w gp gp ([2] ++ lowN tn 4 ++ lowN mn 4) v) V2 := hS
        have d14 : (vs 0) = .pointer (some ⟨B, 1, none⟩) := hV 0 (Nat.le_of_ble_eq_true rfl)
        have d15 : (vs 1) = .int .u32 tn := hV 1 (Nat.le_of_ble_eq_true rfl)
        have d16 : (vs 2) = .pointer (some ⟨gp, 0, none⟩) := hV 2 (Nat.le_of_ble_eq_true rfl)
        have d17 : (vs 3) = .pointer (some ⟨B, 2, none⟩) := hV 3 (Nat.le_of_ble_eq_true rfl)
        have d18 : (vs 4) = .int .u32 mn := hV 4 (Nat.le_of_ble_eq_true rfl)
        have d19 : (vs 5) = .pointer (some ⟨gp, 0, none⟩) := hV 5 (Nat.le_of_ble_eq_true rfl)
        clear hV
        simp only [putAll]
        rw [d14, d15, d16, d17, d18, d19]
        clear d14 d15 d16 d17 d18 d19
        clear vs
        simp only [Act.put, List.setIfInBounds_toArray, List.set_cons_zero, List.set_cons_succ]
        obtain ⟨v2, hp2⟩ := hS
        have HP2 := Aside0.mk hp2
        have HB2 := Aside0.mk hC.1
        clear hp2 hC
        go_wp2_with fail
        refine (pbytes_any gp gp ([2] ++ lowN tn 4 ++ lowN mn 4) v2 V2 HP2.out (by simp [lowN_length])).mono ?_
        rintro e V9 ⟨v9, rfl, hr9, hb9⟩
        have HR9 := Aside0.mk (Kd.R_lower hr9 (Nat.le_trans (Nat.le_of_lt GD.out) (Nat.le_of_lt (blk_lt HP2.out.1))))
        have HB9 := Aside0.mk (HW0.out _ (HB2.out.trans (hb9.mono (Nat.le_of_lt (blk_lt HP2.out.1)))))
        clear hr9 hb9
        go_wp2_with fail
        go_ret
        rw [HB.out, HE.out]
        exact ⟨_, rfl, HR9.out, HB9.out⟩
    · skip
      by_cases h5 : k = 5
      · subst h5
        have HE : Aside0 (mb = [5] ++ pb) := ⟨HMB.out⟩
        clear HMB
        go_wp2_with fail
        clear c0
        refine regionS (W := V1)
          [fun _ _ => True,
           fun _ v => v = .pointer (some ⟨B, 3, none⟩),
           fun _ v => v = .agg #[.int .u32 tk, .int .u32 hs, .slice A n c, .slice A2 nc c2],
           fun _ _ => True,
           fun _ _ => True,
           fun _ _ => True]
          [0, 3, 4, 5]
          (fun t => match t with | 0 => fun (rs : List Value) (w : World) => ∃ v, Pn w gp gp [5] v | 1 => fun (rs : List Value) (w : World) => (Kd.int .u8).R 5 w gp (fun _ => True) (rs.getD 0 undef) [5] | 2 => fun (rs : List Value) (w : World) => (Kd.int .u8).R 5 w gp (fun _ => True) (rs.getD 0 undef) [5] ∧ (Kd.int .u8).R 5 w gp (fun _ => True) (rs.getD 1 undef) pb | 3 => fun (rs : List Value) (w : World) => (Kd.int .u8).R 5 w gp (fun _ => True) (rs.getD 2 undef) ([5] ++ pb) | 4 => fun (rs : List Value) (w : World) => (Kd.int .u8).R 5 w gp (fun _ => True) (rs.getD 3 undef) ([5] ++ pb) | _ => fun _ _ => False)
          (fun _ _ _ => True) (fun w => Below gp V0 w ∧ gp ≤ w.heap.size)
          (fun j =>  none)
          [(0, some 23), (1, some 24), (2, some 25), (3, some 26), (4, some 27), (5, some 2)]
          []
          (by kernel_rfl) (by kernel_rfl) (by kernel_rfl) (by kernel_rfl) (by kernel_rfl) ?z10_2c ?z10_2i ?z10_2b ?z10_2d ?z10_2g ⟨?z10_2t0, ?z10_2t1, ?z10_2t2, ?z10_2t3, ?z10_2t4, ?z10_2t5, trivial⟩ ⟨?z10_2o0, ?z10_2o1, ?z10_2o2, ?z10_2o3, ?z10_2o4, ?z10_2o5, trivial⟩ ?z10_2e
        case z10_2c => exact ⟨HB1.out.trans (below_drew (Below.refl _ _)), Nat.le_of_lt (blk_lt HP1.out.1)⟩
        case z10_2i => exact ⟨_, HP1.out⟩
        case z10_2b => intro w w' hb h; exact ⟨h.1.trans (hb.mono h.2), Nat.le_trans h.2 hb.size⟩
        case z10_2d =>
          intro t rs w w' hb h
          match t, h with
          | 0, h => (replace h : ∃ v, Pn w gp gp [5] v := h); show ∃ v, Pn w' gp gp [5] v; first | exact Kd.R_below h hb | exact ⟨Kd.R_below h.1 hb, Kd.R_below h.2 hb⟩ | (obtain ⟨v, h⟩ := h; exact ⟨v, h.below hb⟩)
          | 1, h => (replace h : (Kd.int .u8).R 5 w gp (fun _ => True) (rs.getD 0 undef) [5] := h); show (Kd.int .u8).R 5 w' gp (fun _ => True) (rs.getD 0 undef) [5]; first | exact Kd.R_below h hb | exact ⟨Kd.R_below h.1 hb, Kd.R_below h.2 hb⟩ | (obtain ⟨v, h⟩ := h; exact ⟨v, h.below hb⟩)
          | 2, h => (replace h : (Kd.int .u8).R 5 w gp (fun _ => True) (rs.getD 0 undef) [5] ∧ (Kd.int .u8).R 5 w gp (fun _ => True) (rs.getD 1 undef) pb := h); show (Kd.int .u8).R 5 w' gp (fun _ => True) (rs.getD 0 undef) [5] ∧ (Kd.int .u8).R 5 w' gp (fun _ => True) (rs.getD 1 undef) pb; first | exact Kd.R_below h hb | exact ⟨Kd.R_below h.1 hb, Kd.R_below h.2 hb⟩ | (obtain ⟨v, h⟩ := h; exact ⟨v, h.below hb⟩)
          | 3, h => (replace h : (Kd.int .u8).R 5 w gp (fun _ => True) (rs.getD 2 undef) ([5] ++ pb) := h); show (Kd.int .u8).R 5 w' gp (fun _ => True) (rs.getD 2 undef) ([5] ++ pb); first | exact Kd.R_below h hb | exact ⟨Kd.R_below h.1 hb, Kd.R_below h.2 hb⟩ | (obtain ⟨v, h⟩ := h; exact ⟨v, h.below hb⟩)
          | 4, h => (replace h : (Kd.int .u8).R 5 w gp (fun _ => True) (rs.getD 3 undef) ([5] ++ pb) := h); show (Kd.int .u8).R 5 w' gp (fun _ => True) (rs.getD 3 undef) ([5] ++ pb); first | exact Kd.R_below h hb | exact ⟨Kd.R_below h.1 hb, Kd.R_below h.2 hb⟩ | (obtain ⟨v, h⟩ := h; exact ⟨v, h.below hb⟩)
          | _ + 5, h => exact h.elim
        case z10_2g =>
          intro j hj; cases hj
        case z10_2t0 => exact StabS.const _ _ _ _
        case z10_2t1 => exact StabS.const _ _ _ _
        case z10_2t2 => exact StabS.const _ _ _ _
        case z10_2t3 => exact StabS.const _ _ _ _
        case z10_2t4 => exact StabS.const _ _ _ _
        case z10_2t5 => exact StabS.const _ _ _ _
        case z10_2o0 =>
          intro vs w hC hS hV
          replace hS : ∃ v, Pn w gp gp [5] v := hS
          rw [if_pos (by kernel_rfl)]
          generalize hρ : rho _ _ _ vs = ρ
          have e3 : ρ (.tmp 3) = .pointer (some ⟨gp, 0, none⟩) := by rw [← hρ]; kernel_rfl
          have ef40 : ρ (.func 40) = .func (.func 40) #[] #[] := by rw [← hρ]; rfl
          clear hρ hV
          obtain ⟨v, hp⟩ := hS
          refine runs_call (f := 40) (args := #[.pointer (some ⟨gp, 0, none⟩)]) (w' := w) ?_ ?_
          · go_simp
          · refine (pbytes_any gp gp [5] v w hp (by simp)).mono ?_
            rintro e w5 ⟨v9, rfl, hr9, hb9⟩
            exact ⟨_, rfl, ⟨hC.1.trans (hb9.mono hC.2), Nat.le_trans hC.2 hb9.size⟩, trivial, trivial, Kd.R_lower hr9 hC.2⟩
        case z10_2o1 =>
          intro vs w t hC ht1 ht2 hS hV
          rw [if_pos (by kernel_rfl)]
          generalize hρ : rho _ _ _ vs = ρ
          have e1 : ρ (.tmp 1) = .pointer (some ⟨B, 0, none⟩) := by rw [← hρ]; kernel_rfl
          clear hρ hV
          refine runs_val (v := .pointer (some ⟨B, 3, none⟩)) (w' := w) ?_ ⟨Below.refl _ _, rfl⟩
          clear ht1 ht2 hS hC
          go_simp <;> (first | exact IntWalk.u64_in _ (by omega) | exact IntWalk.u32_in _ (by omega) | exact IntWalk.u16_in _ (by omega) | exact IntWalk.u8_in _ (by omega) | exact IntWalk.i64_in _ (by omega) | skip)
        case z10_2o2 =>
          intro vs w t hC ht1 ht2 hS hV
          rw [if_pos (by kernel_rfl)]
          generalize hρ : rho _ _ _ vs = ρ
          have d24 : (vs 1) = .pointer (some ⟨B, 3, none⟩) := hV 1 (by kernel_rfl)
          have e24 : ρ (.tmp 24) = vs 1 := by rw [← hρ]; kernel_rfl
          rw [d24] at e24; clear d24
          clear hρ hV
          have c3 := HCL.out.2.2.2.1 w hC.1
          have c4 := HCL.out.2.2.2.2.1 w hC.1
          have c5 := HCL.out.2.2.2.2.2.1 w hC.1
          have c6 := HCL.out.2.2.2.2.2.2 w hC.1
          refine runs_val (v := .agg #[.int .u32 tk, .int .u32 hs, .slice A n c, .slice A2 nc c2]) (w' := w) ?_ ⟨Below.refl _ _, rfl⟩
          clear ht1 ht2 hS hC
          go_simp
        case z10_2o3 =>
          intro vs w hC hS hV
          replace hS : (Kd.int .u8).R 5 w gp (fun _ => True) (vs 0) [5] := hS
          rw [if_pos (by kernel_rfl)]
          generalize hρ : rho _ _ _ vs = ρ
          have d25 : (vs 2) = .agg #[.int .u32 tk, .int .u32 hs, .slice A n c, .slice A2 nc c2] := hV 2 (by kernel_rfl)
          have e25 : ρ (.tmp 25) = vs 2 := by rw [← hρ]; kernel_rfl
          rw [d25] at e25; clear d25
          have ef41 : ρ (.func 41) = .func (.func 41) #[] #[] := by rw [← hρ]; rfl
          clear hρ hV
          refine runs_call (f := 41) (args := #[.agg #[.int .u32 tk, .int .u32 hs, .slice A n c, .slice A2 nc c2]]) (w' := w) ?_ ?_
          · go_simp
          · refine (KB.out w (HW0.out w hC.1)).mono ?_
            rintro e w5 ⟨v9, rfl, hr9, hb9⟩
            exact ⟨_, rfl, ⟨hC.1.trans (hb9.mono hC.2), Nat.le_trans hC.2 hb9.size⟩, trivial, trivial, Kd.R_below hS hb9, Kd.R_lower hr9 hC.2⟩
        case z10_2o4 =>
          intro vs w hC hS hV
          replace hS : (Kd.int .u8).R 5 w gp (fun _ => True) (vs 0) [5] ∧ (Kd.int .u8).R 5 w gp (fun _ => True) (vs 3) pb := hS
          rw [if_pos (by kernel_rfl)]
          generalize hρ : rho _ _ _ vs = ρ
          have d23 : (fun (w : World) (v : Value) => True) w (vs 0) := hV 0 (by kernel_rfl)
          have e23 : ρ (.tmp 23) = vs 0 := by rw [← hρ]; kernel_rfl
          have d26 : (fun (w : World) (v : Value) => True) w (vs 3) := hV 3 (by kernel_rfl)
          have e26 : ρ (.tmp 26) = vs 3 := by rw [← hρ]; kernel_rfl
          clear hρ hV
          obtain ⟨A5, c5, h5, l5, q5⟩ := Kd.R_reads hS.2
          rw [h5] at e26
          refine runs_append (Kd.int .u8) (Rr := fun x cs => cs = [.int .u8 x]) gp 23 26 23 5 (.int .u8 0) 1 rfl Try.underlying23 np_info rfl (by decide) (by decide) (vs 0) [5] pb A5 pb.length c5 (fun _ => True) (fun _ => False) e23 e26 hS.1 q5 (fun _ _ h => h) (fun _ h => h.elim) (fun _ _ => trivial) hC.2 (by have := HPL.out; simp; omega) ?_
          intro v1 w1 h1 hg1 hat
          exact ⟨⟨hC.1.trans ((Below.refl gp w).grown hg1 hC.2 (fun j hj => Kd.R_base hS.1 j hj)), Nat.le_trans hC.2 hg1.size⟩, trivial, trivial, h1⟩
        case z10_2o5 =>
          intro vs w hC hS hV
          replace hS : (Kd.int .u8).R 5 w gp (fun _ => True) (vs 4) ([5] ++ pb) := hS
          rw [if_pos (by kernel_rfl)]
          generalize hρ : rho _ _ _ vs = ρ
          have d27 : (fun (w : World) (v : Value) => True) w (vs 4) := hV 4 (by kernel_rfl)
          have e27 : ρ (.tmp 27) = vs 4 := by rw [← hρ]; kernel_rfl
          clear hρ hV
          refine runs_val (v := vs 4) (w' := w) ?_ ⟨hC, trivial, trivial, hS⟩
          clear hS hC
          go_simp
        case z10_2e =>
          intro vs V2 hC hS hV
          replace hS : (fun (w : World) => (Kd.int .u8).R 5 w gp (fun _ => True) (vs 5) ([5] ++ pb)) V2 := hS
          have d23 : (fun (w : World) (v : Value) => True) V2 (vs 0) := hV 0 (Nat.le_of_ble_eq_true rfl)
          have d24 : (vs 1) = .pointer (some ⟨B, 3, none⟩) := hV 1 (Nat.le_of_ble_eq_true rfl)
          have d25 : (vs 2) = .agg #[.int .u32 tk, .int .u32 hs, .slice A n c, .slice A2 nc c2] := hV 2 (Nat.le_of_ble_eq_true rfl)
          have d26 : (fun (w : World) (v : Value) => True) V2 (vs 3) := hV 3 (Nat.le_of_ble_eq_true rfl)
          have d27 : (fun (w : World) (v : Value) => True) V2 (vs 4) := hV 4 (Nat.le_of_ble_eq_true rfl)
          have d2 : (fun (w : World) (v : Value) => True) V2 (vs 5) := hV 5 (Nat.le_of_ble_eq_true rfl)
          clear hV
          simp only [putAll]
          rw [d24, d25]
          clear d24 d25
          generalize vs 0 = v23 at *
          generalize vs 3 = v26 at *
          generalize vs 4 = v27 at *
          generalize vs 5 = v2 at *
          clear vs
          simp only [Act.put, List.setIfInBounds_toArray, List.set_cons_zero, List.set_cons_succ]
          have HR2 := Aside0.mk (Kd.R_lower hS (Nat.le_of_lt GD.out))
          have HB2 := Aside0.mk (HW0.out _ hC.1)
          clear hS hC
          go_wp2_with fail
          go_ret
          rw [HB.out, HE.out]
          exact ⟨_, rfl, HR2.out, HB2.out⟩
      · skip
        by_cases h6 : k = 6
        · subst h6
          have HE : Aside0 (mb = [6] ++ pb) := ⟨HMB.out⟩
          clear HMB
          go_wp2_with fail
          clear c0
          refine regionS (W := V1)
            [fun _ _ => True,
             fun _ v => v = .pointer (some ⟨B, 3, none⟩),
             fun _ v => v = .agg #[.int .u32 tk, .int .u32 hs, .slice A n c, .slice A2 nc c2],
             fun _ _ => True,
             fun _ _ => True,
             fun _ _ => True]
            [0, 3, 4, 5]
            (fun t => match t with | 0 => fun (rs : List Value) (w : World) => ∃ v, Pn w gp gp [6] v | 1 => fun (rs : List Value) (w : World) => (Kd.int .u8).R 5 w gp (fun _ => True) (rs.getD 0 undef) [6] | 2 => fun (rs : List Value) (w : World) => (Kd.int .u8).R 5 w gp (fun _ => True) (rs.getD 0 undef) [6] ∧ (Kd.int .u8).R 5 w gp (fun _ => True) (rs.getD 1 undef) pb | 3 => fun (rs : List Value) (w : World) => (Kd.int .u8).R 5 w gp (fun _ => True) (rs.getD 2 undef) ([6] ++ pb) | 4 => fun (rs : List Value) (w : World) => (Kd.int .u8).R 5 w gp (fun _ => True) (rs.getD 3 undef) ([6] ++ pb) | _ => fun _ _ => False)
            (fun _ _ _ => True) (fun w => Below gp V0 w ∧ gp ≤ w.heap.size)
            (fun j =>  none)
            [(0, some 23), (1, some 24), (2, some 25), (3, some 26), (4, some 27), (5, some 2)]
            []
            (by kernel_rfl) (by kernel_rfl) (by kernel_rfl) (by kernel_rfl) (by kernel_rfl) ?z10_3c ?z10_3i ?z10_3b ?z10_3d ?z10_3g ⟨?z10_3t0, ?z10_3t1, ?z10_3t2, ?z10_3t3, ?z10_3t4, ?z10_3t5, trivial⟩ ⟨?z10_3o0, ?z10_3o1, ?z10_3o2, ?z10_3o3, ?z10_3o4, ?z10_3o5, trivial⟩ ?z10_3e
          case z10_3c => exact ⟨HB1.out.trans (below_drew (Below.refl _ _)), Nat.le_of_lt (blk_lt HP1.out.1)⟩
          case z10_3i => exact ⟨_, HP1.out⟩
          case z10_3b => intro w w' hb h; exact ⟨h.1.trans (hb.mono h.2), Nat.le_trans h.2 hb.size⟩
          case z10_3d =>
            intro t rs w w' hb h
            match t, h with
            | 0, h => (replace h : ∃ v, Pn w gp gp [6] v := h); show ∃ v, Pn w' gp gp [6] v; first | exact Kd.R_below h hb | exact ⟨Kd.R_below h.1 hb, Kd.R_below h.2 hb⟩ | (obtain ⟨v, h⟩ := h; exact ⟨v, h.below hb⟩)
            | 1, h => (replace h : (Kd.int .u8).R 5 w gp (fun _ => True) (rs.getD 0 undef) [6] := h); show (Kd.int .u8).R 5 w' gp (fun _ => True) (rs.getD 0 undef) [6]; first | exact Kd.R_below h hb | exact ⟨Kd.R_below h.1 hb, Kd.R_below h.2 hb⟩ | (obtain ⟨v, h⟩ := h; exact ⟨v, h.below hb⟩)
            | 2, h => (replace h : (Kd.int .u8).R 5 w gp (fun _ => True) (rs.getD 0 undef) [6] ∧ (Kd.int .u8).R 5 w gp (fun _ => True) (rs.getD 1 undef) pb := h); show (Kd.int .u8).R 5 w' gp (fun _ => True) (rs.getD 0 undef) [6] ∧ (Kd.int .u8).R 5 w' gp (fun _ => True) (rs.getD 1 undef) pb; first | exact Kd.R_below h hb | exact ⟨Kd.R_below h.1 hb, Kd.R_below h.2 hb⟩ | (obtain ⟨v, h⟩ := h; exact ⟨v, h.below hb⟩)
            | 3, h => (replace h : (Kd.int .u8).R 5 w gp (fun _ => True) (rs.getD 2 undef) ([6] ++ pb) := h); show (Kd.int .u8).R 5 w' gp (fun _ => True) (rs.getD 2 undef) ([6] ++ pb); first | exact Kd.R_below h hb | exact ⟨Kd.R_below h.1 hb, Kd.R_below h.2 hb⟩ | (obtain ⟨v, h⟩ := h; exact ⟨v, h.below hb⟩)
            | 4, h => (replace h : (Kd.int .u8).R 5 w gp (fun _ => True) (rs.getD 3 undef) ([6] ++ pb) := h); show (Kd.int .u8).R 5 w' gp (fun _ => True) (rs.getD 3 undef) ([6] ++ pb); first | exact Kd.R_below h hb | exact ⟨Kd.R_below h.1 hb, Kd.R_below h.2 hb⟩ | (obtain ⟨v, h⟩ := h; exact ⟨v, h.below hb⟩)
            | _ + 5, h => exact h.elim
          case z10_3g =>
            intro j hj; cases hj
          case z10_3t0 => exact StabS.const _ _ _ _
          case z10_3t1 => exact StabS.const _ _ _ _
          case z10_3t2 => exact StabS.const _ _ _ _
          case z10_3t3 => exact StabS.const _ _ _ _
          case z10_3t4 => exact StabS.const _ _ _ _
          case z10_3t5 => exact StabS.const _ _ _ _
          case z10_3o0 =>
            intro vs w hC hS hV
            replace hS : ∃ v, Pn w gp gp [6] v := hS
            rw [if_pos (by kernel_rfl)]
            generalize hρ : rho _ _ _ vs = ρ
            have e3 : ρ (.tmp 3) = .pointer (some ⟨gp, 0, none⟩) := by rw [← hρ]; kernel_rfl
            have ef40 : ρ (.func 40) = .func (.func 40) #[] #[] := by rw [← hρ]; rfl
            clear hρ hV
            obtain ⟨v, hp⟩ := hS
            refine runs_call (f := 40) (args := #[.pointer (some ⟨gp, 0, none⟩)]) (w' := w) ?_ ?_
            · go_simp
            · refine (pbytes_any gp gp [6] v w hp (by simp)).mono ?_
              rintro e w5 ⟨v9, rfl, hr9, hb9⟩
              exact ⟨_, rfl, ⟨hC.1.trans (hb9.mono hC.2), Nat.le_trans hC.2 hb9.size⟩, trivial, trivial, Kd.R_lower hr9 hC.2⟩
          case z10_3o1 =>
            intro vs w t hC ht1 ht2 hS hV
            rw [if_pos (by kernel_rfl)]
            generalize hρ : rho _ _ _ vs = ρ
            have e1 : ρ (.tmp 1) = .pointer (some ⟨B, 0, none⟩) := by rw [← hρ]; kernel_rfl
            clear hρ hV
            refine runs_val (v := .pointer (some ⟨B, 3, none⟩)) (w' := w) ?_ ⟨Below.refl _ _, rfl⟩
            clear ht1 ht2 hS hC
            go_simp <;> (first | exact IntWalk.u64_in _ (by omega) | exact IntWalk.u32_in _ (by omega) | exact IntWalk.u16_in _ (by omega) | exact IntWalk.u8_in _ (by omega) | exact IntWalk.i64_in _ (by omega) | skip)
          case z10_3o2 =>
            intro vs w t hC ht1 ht2 hS hV
            rw [if_pos (by kernel_rfl)]
            generalize hρ : rho _ _ _ vs = ρ
            have d24 : (vs 1) = .pointer (some ⟨B, 3, none⟩) := hV 1 (by kernel_rfl)
            have e24 : ρ (.tmp 24) = vs 1 := by rw [← hρ]; kernel_rfl
            rw [d24] at e24; clear d24
            clear hρ hV
            have c3 := HCL.out.2.2.2.1 w hC.1
            have c4 := HCL.out.2.2.2.2.1 w hC.1
            have c5 := HCL.out.2.2.2.2.2.1 w hC.1
            have c6 := HCL.out.2.2.2.2.2.2 w hC.1
            refine runs_val (v := .agg #[.int .u32 tk, .int .u32 hs, .slice A n c, .slice A2 nc c2]) (w' := w) ?_ ⟨Below.refl _ _, rfl⟩
            clear ht1 ht2 hS hC
            go_simp
          case z10_3o3 =>
            intro vs w hC hS hV
            replace hS : (Kd.int .u8).R 5 w gp (fun _ => True) (vs 0) [6] := hS
            rw [if_pos (by kernel_rfl)]
            generalize hρ : rho _ _ _ vs = ρ
            have d25 : (vs 2) = .agg #[.int .u32 tk, .int .u32 hs, .slice A n c, .slice A2 nc c2] := hV 2 (by kernel_rfl)
            have e25 : ρ (.tmp 25) = vs 2 := by rw [← hρ]; kernel_rfl
            rw [d25] at e25; clear d25
            have ef41 : ρ (.func 41) = .func (.func 41) #[] #[] := by rw [← hρ]; rfl
            clear hρ hV
            refine runs_call (f := 41) (args := #[.agg #[.int .u32 tk, .int .u32 hs, .slice A n c, .slice A2 nc c2]]) (w' := w) ?_ ?_
            · go_simp
            · refine (KB.out w (HW0.out w hC.1)).mono ?_
              rintro e w5 ⟨v9, rfl, hr9, hb9⟩
              exact ⟨_, rfl, ⟨hC.1.trans (hb9.mono hC.2), Nat.le_trans hC.2 hb9.size⟩, trivial, trivial, Kd.R_below hS hb9, Kd.R_lower hr9 hC.2⟩
          case z10_3o4 =>
            intro vs w hC hS hV
            replace hS : (Kd.int .u8).R 5 w gp (fun _ => True) (vs 0) [6] ∧ (Kd.int .u8).R 5 w gp (fun _ => True) (vs 3) pb := hS
            rw [if_pos (by kernel_rfl)]
            generalize hρ : rho _ _ _ vs = ρ
            have d23 : (fun (w : World) (v : Value) => True) w (vs 0) := hV 0 (by kernel_rfl)
            have e23 : ρ (.tmp 23) = vs 0 := by rw [← hρ]; kernel_rfl
            have d26 : (fun (w : World) (v : Value) => True) w (vs 3) := hV 3 (by kernel_rfl)
            have e26 : ρ (.tmp 26) = vs 3 := by rw [← hρ]; kernel_rfl
            clear hρ hV
            obtain ⟨A5, c5, h5, l5, q5⟩ := Kd.R_reads hS.2
            rw [h5] at e26
            refine runs_append (Kd.int .u8) (Rr := fun x cs => cs = [.int .u8 x]) gp 23 26 23 5 (.int .u8 0) 1 rfl Try.underlying23 np_info rfl (by decide) (by decide) (vs 0) [6] pb A5 pb.length c5 (fun _ => True) (fun _ => False) e23 e26 hS.1 q5 (fun _ _ h => h) (fun _ h => h.elim) (fun _ _ => trivial) hC.2 (by have := HPL.out; simp; omega) ?_
            intro v1 w1 h1 hg1 hat
            exact ⟨⟨hC.1.trans ((Below.refl gp w).grown hg1 hC.2 (fun j hj => Kd.R_base hS.1 j hj)), Nat.le_trans hC.2 hg1.size⟩, trivial, trivial, h1⟩
          case z10_3o5 =>
            intro vs w hC hS hV
            replace hS : (Kd.int .u8).R 5 w gp (fun _ => True) (vs 4) ([6] ++ pb) := hS
            rw [if_pos (by kernel_rfl)]
            generalize hρ : rho _ _ _ vs = ρ
            have d27 : (fun (w : World) (v : Value) => True) w (vs 4) := hV 4 (by kernel_rfl)
            have e27 : ρ (.tmp 27) = vs 4 := by rw [← hρ]; kernel_rfl
            clear hρ hV
            refine runs_val (v := vs 4) (w' := w) ?_ ⟨hC, trivial, trivial, hS⟩
            clear hS hC
            go_simp
          case z10_3e =>
            intro vs V2 hC hS hV
            replace hS : (fun (w : World) => (Kd.int .u8).R 5 w gp (fun _ => True) (vs 5) ([6] ++ pb)) V2 := hS
            have d23 : (fun (w : World) (v : Value) => True) V2 (vs 0) := hV 0 (Nat.le_of_ble_eq_true rfl)
            have d24 : (vs 1) = .pointer (some ⟨B, 3, none⟩) := hV 1 (Nat.le_of_ble_eq_true rfl)
            have d25 : (vs 2) = .agg #[.int .u32 tk, .int .u32 hs, .slice A n c, .slice A2 nc c2] := hV 2 (Nat.le_of_ble_eq_true rfl)
            have d26 : (fun (w : World) (v : Value) => True) V2 (vs 3) := hV 3 (Nat.le_of_ble_eq_true rfl)
            have d27 : (fun (w : World) (v : Value) => True) V2 (vs 4) := hV 4 (Nat.le_of_ble_eq_true rfl)
            have d2 : (fun (w : World) (v : Value) => True) V2 (vs 5) := hV 5 (Nat.le_of_ble_eq_true rfl)
            clear hV
            simp only [putAll]
            rw [d24, d25]
            clear d24 d25
            generalize vs 0 = v23 at *
            generalize vs 3 = v26 at *
            generalize vs 4 = v27 at *
            generalize vs 5 = v2 at *
            clear vs
            simp only [Act.put, List.setIfInBounds_toArray, List.set_cons_zero, List.set_cons_succ]
            have HR2 := Aside0.mk (Kd.R_lower hS (Nat.le_of_lt GD.out))
            have HB2 := Aside0.mk (HW0.out _ hC.1)
            clear hS hC
            go_wp2_with fail
            go_ret
            rw [HB.out, HE.out]
            exact ⟨_, rfl, HR2.out, HB2.out⟩
        · skip
          have HE : Aside0 (mb = [k]) := ⟨by rw [HMB.out, if_neg h2, if_neg (by omega)]⟩
          clear HMB
          go_wp2_with fail
          refine (pbytes_any gp gp [k] v1 V1 HP1.out (by simp [lowN_length])).mono ?_
          rintro e V9 ⟨v9, rfl, hr9, hb9⟩
          have HR9 := Aside0.mk (Kd.R_lower hr9 (Nat.le_trans (Nat.le_of_lt GD.out) (Nat.le_of_lt (blk_lt HP1.out.1))))
          have HB9 := Aside0.mk (HW0.out _ (HB1.out.trans (hb9.mono (Nat.le_of_lt (blk_lt HP1.out.1)))))
          clear hr9 hb9
          go_wp2_with fail
          go_ret
          rw [HB.out, HE.out]
          exact ⟨_, rfl, HR9.out, HB9.out⟩
set_option maxRecDepth 100000 in
set_option maxHeartbeats 4000000 in
/-- How many bytes. -/
theorem msize_any (k t m tk hs : Int) (P : List Int) (C : List S59) (v : Value) (w00 : World) (hv : MsC w00 k t m tk hs P C v) (hk : OkM k t m tk hs P C) :
    Calls Try.prog 16 #[v] w00 fun e w' => e = .returned (.int .i64 (mBytes k t m tk hs P C).length) ∧ Below w00.heap.size w00 w' := by
  have KB := Aside0.mk (fun (z : World) (h : Below w00.heap.size w00 z) => mbytes_any k t m tk hs P C v z (hv.below h) hk)
  obtain ⟨A, c, A2, c2, rfl, h2, h3, h4, h5⟩ := hv
  obtain ⟨n, hn⟩ : ∃ n, P.length = n := ⟨_, rfl⟩
  obtain ⟨nc, hnc⟩ : ∃ nc, C.length = nc := ⟨_, rfl⟩
  rw [hn, hnc] at KB
  rw [hn, hnc]
  have H0 := Aside0.mk ((Hp.start w00).alloc (.cells #[.int .u8 k, .int .u32 t, .int .u32 m, .int .u32 tk, .int .u32 hs, .slice A n c, .slice A2 nc c2] 28))
  clear hk h2 h3 h4 h5 hn hnc
  go_enter Try.func16, Try.ntmps16
  go_wp2_with (first | (refine wpList_load_row_g 28 (.tmp 1) rfl w00.heap.size rfl rfl 28 _ (0, 0) _ (H0.out.get (i := 0) rfl) Try.underlying28 rfl (msg_info _ _ _ _ _ _ _) ?_))
  refine (KB.out _ H0.out.bel).mono ?_
  rintro e w1 ⟨v1, rfl, hv1, hb1⟩
  have H1 := Aside0.mk (H0.out.call hb1)
  obtain ⟨A5, c5, rfl, l5, _⟩ := Kd.R_reads hv1
  clear hv1 hb1 H0 KB
  go_wp2_with fail
  go_ret
  exact ⟨rfl, H1.out.bel⟩
end Go.Proofs.Yticpjidcgaaldaa

namespace Go.Proofs.Yticpjidcgaaldaa
open Go.RowKit Go.Proofs.YticpjidcgaaldaaW.PrintWords Go.Proofs.YticpjidcgaaldaaW.PrintLast Go.Proofs.YticpjidcgaaldaaW.PrintMore
set_option linter.unusedVariables false
set_option linter.unusedSimpArgs false

/-- What is read of any bytes. -/
structure MRes where
  ok : Bool
  k : Int
  t : Int
  m : Int
  tk : Int
  hs : Int
  P : List Int
  C : List S59
def badR : MRes := ⟨false, 0, 0, 0, 0, 0, [], []⟩
def readR : List Int → MRes
  | [] => badR
  | x :: r => if x = 2 then (if r.length = 8 then ⟨true, 2, leN (r.take 4), leN ((r.drop 4).take 4), 0, 0, [], []⟩ else badR)
    else if x = 5 ∨ x = 6 then (if okD r = true then ⟨true, x, tkQ r, 0, tkQ r, hsQ r, plQ r, clQ r⟩ else badR)
    else if x = 1 ∨ x = 3 ∨ x = 4 then (if r.length = 0 then ⟨true, x, 0, 0, 0, 0, [], []⟩ else badR) else badR
theorem readR_two (r : List Int) : readR (2 :: r) = if r.length = 8 then ⟨true, 2, leN (r.take 4), leN ((r.drop 4).take 4), 0, 0, [], []⟩ else badR := by simp only [readR, if_true]
theorem readR_five {x : Int} (r : List Int) (h2 : ¬ x = 2) (h : x = 5 ∨ x = 6) : readR (x :: r) = if okD r = true then ⟨true, x, tkQ r, 0, tkQ r, hsQ r, plQ r, clQ r⟩ else badR := by simp only [readR]; rw [if_neg h2, if_pos h]
theorem readR_oth {x : Int} (r : List Int) (h2 : ¬ x = 2) (h : ¬ (x = 5 ∨ x = 6)) : readR (x :: r) = if x = 1 ∨ x = 3 ∨ x = 4 then (if r.length = 0 then ⟨true, x, 0, 0, 0, 0, [], []⟩ else badR) else badR := by simp only [readR]; rw [if_neg h2, if_neg h]
theorem OfR.msg {b : Nat} {w : World} {k t m tk hs : Int} {P : List Int} {C : List S59} {x y : Value} (h : OfR b w tk hs P C (.agg #[.int .u32 tk, .int .u32 hs, x, y])) : MsC w k t m tk hs P C (.agg #[.int .u8 k, .int .u32 t, .int .u32 m, .int .u32 tk, .int .u32 hs, x, y]) := by
  obtain ⟨A, c, A2, c2, he, h1, h2, h3, h4⟩ := h.cells
  injection he with he
  simp only [Array.mk.injEq, List.cons.injEq, and_true, true_and] at he
  obtain ⟨rfl, rfl⟩ := he
  exact ⟨A, c, A2, c2, rfl, h1, h2, h3, h4⟩
theorem parse_formR {q : List Int} {b : Nat} {w' : World} {e : Ending} (h : ParseR q b w' e) : ∃ A n c A2 m c2, e = .returned (.tuple #[.agg #[.int .u32 (tkQ q), .int .u32 (hsQ q), .slice A n c, .slice A2 m c2], .int .i64 (ecD q)]) ∧
    OfR b w' (tkQ q) (hsQ q) (plQ q) (clQ q) (.agg #[.int .u32 (tkQ q), .int .u32 (hsQ q), .slice A n c, .slice A2 m c2]) := by
  unfold ParseR at h
  unfold tkQ hsQ plQ clQ ecD
  by_cases hk : okD q = true
  · simp only [hk, if_true] at h ⊢
    obtain ⟨v, rfl, hv⟩ := h
    obtain ⟨A, c, A2, c2, rfl, h1, h2, h3, h4⟩ := hv
    exact ⟨A, _, c, A2, _, c2, rfl, A, c, A2, c2, rfl, h1, h2, h3, h4⟩
  · simp only [hk, if_false] at h ⊢
    subst h
    exact ⟨none, 0, 0, none, 0, 0, rfl, none, 0, none, 0, rfl, Nat.le_refl _, Nat.le_refl _, Kd.R_nil _ _ _ _ _, Kd.R_nil _ _ _ _ _⟩
theorem Hp.eyeL {B0 B ge : Nat} {w0 w w' : World} {L : List (Nat × Obj)} {l : List Int} {b : Bool} (h : Hp B0 w0 w L []) (he : EyTo w w' ge B l b) (h0 : B0 ≤ ge) (hne : ∀ p ∈ L, p.1 ≠ ge) : Hp B0 w0 w' L [] :=
  ⟨h.1.trans (he.2.2.mono h0), fun p hp => ⟨(he.2.1.2 p.1 (blk_lt (h.2.1 p hp).1) (hne p hp) (by simp)).trans (h.2.1 p hp).1, (h.2.1 p hp).2⟩, h.2.2.1, Nat.le_trans h.le he.2.1.1, fun φ hφ => by cases hφ⟩
theorem zero_msg (w : World) : (zeroValue 28).run Try.prog w = .ok (.agg #[.int .u8 0, .int .u32 0, .int .u32 0, .int .u32 0, .int .u32 0, .slice none 0 0, .slice none 0 0]) w := by kernel_rfl
theorem MsC_zero (w : World) (k t m : Int) : MsC w k t m 0 0 [] [] (.agg #[.int .u8 k, .int .u32 t, .int .u32 m, .int .u32 0, .int .u32 0, .slice none 0 0, .slice none 0 0]) :=
  ⟨none, 0, none, 0, rfl, Nat.le_refl _, Nat.le_refl _, Kd.C_nil _ _, Kd.C_nil _ _⟩
theorem OkM_zero {k t m : Int} (hk : 0 ≤ k ∧ k < 256) (ht : 0 ≤ t ∧ t < 4294967296) (hm : 0 ≤ m ∧ m < 4294967296) : OkM k t m 0 0 [] [] := ⟨hk, ht, hm, by omega, by omega, Bytes.nil, (fun y hy => by cases hy), by simp, by simp⟩
def ReadM (q : List Int) (w' : World) (e : Ending) : Prop := ∃ v, e = .returned (.tuple #[v, .int .i64 (if (readR q).ok = true then 0 else 2)]) ∧ MsC w' (readR q).k (readR q).t (readR q).m (readR q).tk (readR q).hs (readR q).P (readR q).C v
theorem ReadM.of {q : List Int} {r : MRes} {w' : World} {v : Value} (hq : readR q = r) (hv : MsC w' r.k r.t r.m r.tk r.hs r.P r.C v) : ReadM q w' (.returned (.tuple #[v, .int .i64 (if r.ok = true then 0 else 2)])) := by
  subst hq; exact ⟨v, rfl, hv⟩

set_option maxRecDepth 100000 in
set_option maxHeartbeats 16000000 in
theorem mread_any (A : Option Addr) (n c : Nat) (q : List Int) (w00 : World) (hq : (Kd.int .u8).C w00 A n q) (hc : n ≤ c) (hn : n ≤ 100000000) (hb : Bytes q) :
    Calls Try.prog 17 #[.slice A n c] w00 fun e w' => ReadM q w' e ∧ Below w00.heap.size w00 w' := by
  have HF : Aside0 (∀ z, Below w00.heap.size w00 z → (Kd.int .u8).C z A n q) := ⟨fun z hz => Kd.C_below hq hz⟩
  obtain ⟨B, hB⟩ : ∃ B, w00.heap.size = B := ⟨_, rfl⟩
  have H0 := Aside0.mk ((Hp.start w00).allocAt (.cells #[.int .u8 0, .int .u32 0, .int .u32 0, .int .u32 0, .int .u32 0, .slice none 0 0, .slice none 0 0] 28) B hB)
  rw [hB] at H0 HF
  rw [hB]
  have HN := Aside0.mk (And.intro hn (And.intro hc hq.1))
  have HBQ := Aside0.mk hb
  have KR := Aside0.mk (fun (z : World) (h : Below B w00 z) => read_any A n c q z (HF.out z h) hn)
  have HB := Aside0.mk hB
  have hz7 := zero_msg
  clear hq hn hb hc
  go_enter Try.func17, Try.ntmps17
  go_wp2_with fail
  clear hB
  refine (KR.out _ H0.out.bel).mono ?_
  rintro e w1 ⟨ge, rfl, hge, hEy, hb1⟩
  obtain ⟨BB, hBB⟩ : ∃ BB, w1.heap.size = BB := ⟨_, rfl⟩
  rw [hBB] at hEy
  have hgB : ge < BB := by obtain ⟨_, _, _, _, _, _, _, h5⟩ := hEy; exact h5
  have hge2 : B < ge := Nat.lt_of_lt_of_le (H0.out.lt (i := 0) rfl) hge
  have HGE := Aside0.mk (And.intro hge2 (And.intro hgB (show BB ≤ w1.heap.size by omega)))
  have H1 := Aside0.mk (H0.out.call hb1)
  have HE1 := Aside0.mk hEy
  clear hge hEy hb1 hBB hge2 hgB H0 KR
  obtain ⟨⟨x, l1, b1⟩, e1⟩ : ∃ y, eByte q false = y := ⟨_, rfl⟩
  have K1 := ebyte_any ge BB q false w1 HE1.out
  rw [e1] at K1
  have KK1 := Aside0.mk K1
  have HEB := Aside0.mk e1
  clear K1 e1
  go_wp2_with fail
  refine KK1.out.mono ?_
  rintro e w2 ⟨rfl, he2⟩
  have H2 := Aside0.mk (H1.out.eyeL he2 (Nat.le_of_lt HGE.out.1) (fun p hp => by obtain rfl := List.mem_singleton.1 hp; exact Nat.ne_of_lt HGE.out.1))
  have HE2 := Aside0.mk he2.1
  have HS2 : Aside0 (ge < w2.heap.size ∧ BB ≤ w2.heap.size) := ⟨Nat.lt_of_lt_of_le HGE.out.2.1 (Nat.le_trans HGE.out.2.2 he2.2.1.1), Nat.le_trans HGE.out.2.2 he2.2.1.1⟩
  clear he2 H1 HE1 KK1
  obtain ⟨g5, hg5⟩ : ∃ g5, w2.heap.size = g5 := ⟨_, rfl⟩
  have H3 := Aside0.mk (H2.out.allocAt (.cells #[.int .u8 x, .int .u32 0, .int .u32 0, .int .u32 0, .int .u32 0, .slice none 0 0, .slice none 0 0] 28) g5 hg5)
  have HE3 := Aside0.mk (HE2.out.below ((below_alloc (Below.refl w2.heap.size w2) (.cells #[.int .u8 x, .int .u32 0, .int .u32 0, .int .u32 0, .int .u32 0, .slice none 0 0, .slice none 0 0] 28)).mono HS2.out.2) HS2.out.2)
  have HG5 : Aside0 (ge < g5 ∧ B < g5 ∧ BB ≤ g5) := ⟨by rw [← hg5]; exact HS2.out.1, by have := HGE.out.1; have := HS2.out.1; omega, by rw [← hg5]; exact HS2.out.2⟩
  clear H2 HE2 HS2
  have HG5E := Aside0.mk hg5
  have HX : Aside0 (0 ≤ x ∧ x < 256) := ⟨by have := (eByte_b (bad := false) HBQ.out).1; rw [HEB.out] at this; exact this⟩
  have HBL1 : Aside0 (Bytes l1) := ⟨by have := (eByte_b (bad := false) HBQ.out).2; rw [HEB.out] at this; exact this⟩
  have HQ : Aside0 ((q = [] ∧ x = 0 ∧ l1 = [] ∧ b1 = true) ∨ (q = x :: l1 ∧ b1 = false)) := ⟨by
    have e1 := HEB.out
    cases q with
    | nil => rw [eByte_short (by simp)] at e1; simp only [Prod.mk.injEq] at e1; exact .inl ⟨rfl, e1.1.symm, e1.2.1.symm, e1.2.2.symm⟩
    | cons y r => rw [eByte_good (by simp)] at e1; simp only [Prod.mk.injEq] at e1; obtain ⟨rfl, rfl, rfl⟩ := e1; exact .inr ⟨rfl, rfl⟩⟩
  clear HEB
  by_cases x2 : x = 2
  · subst x2
    have HQ2 : Aside0 (q = 2 :: l1 ∧ b1 = false) := ⟨by rcases HQ.out with h | h; exact absurd h.2.1 (by decide); exact h⟩
    obtain rfl := HQ2.out.2
    obtain ⟨⟨t, l2, b2⟩, e2⟩ : ∃ y, eFix 4 l1 false = y := ⟨_, rfl⟩
    obtain ⟨⟨m, l3, b3⟩, e3⟩ : ∃ y, eFix 4 l2 b2 = y := ⟨_, rfl⟩
    have hBl2 : Bytes l2 := by have := eFix_b (bad := false) 4 HBL1.out; rw [e2] at this; exact this
    have KK2 := Aside0.mk (fun (X : World) (hx : Ey X ge BB l1 false) => eword_any ge BB l1 false X hx HBL1.out)
    have KK3 := Aside0.mk (fun (X : World) (hx : Ey X ge BB l2 b2) => eword_any ge BB l2 b2 X hx hBl2)
    rw [e2] at KK2
    rw [e3] at KK3
    have HT2 : Aside0 ((b3 = true ∨ 0 < l3.length → readR q = badR) ∧ (¬ (b3 = true ∨ 0 < l3.length) → readR q = ⟨true, 2, t, m, 0, 0, [], []⟩) ∧ (0 ≤ t ∧ t < 4294967296) ∧ 0 ≤ m ∧ m < 4294967296) := ⟨by
      rw [HQ2.out.1, readR_two]
      by_cases h4 : 4 ≤ l1.length
      · rw [eFix_good h4] at e2
        simp only [Prod.mk.injEq] at e2
        obtain ⟨rfl, rfl, rfl⟩ := e2
        have ht := leN4 HBL1.out
        by_cases h8 : 8 ≤ l1.length
        · rw [eFix_good (by rw [List.length_drop]; omega)] at e3
          simp only [Prod.mk.injEq] at e3
          obtain ⟨rfl, rfl, rfl⟩ := e3
          have hm := leN4 (HBL1.out.drop 4)
          rw [List.drop_drop, List.length_drop]
          unfold U32 at ht hm
          refine ⟨fun h => ?_, fun h => ?_, ht, hm⟩
          · rw [if_neg (by rcases h with h | h; cases h; omega)]
          · rw [if_pos (by have := fun q => h (.inr q); omega)]
        · rw [eFix_short (by rw [List.length_drop]; omega)] at e3
          simp only [Prod.mk.injEq] at e3
          obtain ⟨rfl, rfl, rfl⟩ := e3
          unfold U32 at ht
          exact ⟨fun h => by rw [if_neg (by omega)], fun h => absurd (.inl rfl) h, ht, by omega, by omega⟩
      · rw [eFix_short (by omega)] at e2
        simp only [Prod.mk.injEq] at e2
        obtain ⟨rfl, rfl, rfl⟩ := e2
        rw [eFix_bad] at e3
        simp only [Prod.mk.injEq] at e3
        obtain ⟨rfl, rfl, rfl⟩ := e3
        exact ⟨fun h => by rw [if_neg (by omega)], fun h => absurd (.inl rfl) h, by omega, by omega, by omega⟩⟩
    clear e2 e3 hBl2
    go_wp2_with fail
    generalize w2.alloc (.cells #[.int .u8 2, .int .u32 0, .int .u32 0, .int .u32 0, .int .u32 0, .slice none 0 0, .slice none 0 0] 28) = W3 at *
    clear hg5
    refine (KK2.out _ HE3.out).mono ?_
    rintro e w4 ⟨rfl, he4⟩
    have H4 := Aside0.mk (H3.out.eyeL he4 (Nat.le_of_lt HGE.out.1) (fun p hp => by
      simp only [List.mem_cons, List.not_mem_nil, or_false] at hp
      rcases hp with rfl | rfl
      · exact Nat.ne_of_gt HG5.out.1
      · exact Nat.ne_of_lt HGE.out.1))
    have HE4 := Aside0.mk he4.1
    clear he4 H3 HE3 KK2
    go_wp2_with fail
    refine (KK3.out _ HE4.out).mono ?_
    rintro e w5 ⟨rfl, he5⟩
    have H5 := Aside0.mk (H4.out.eyeL he5 (Nat.le_of_lt HGE.out.1) (fun p hp => by
      simp only [List.mem_cons, List.not_mem_nil, or_false] at hp
      rcases hp with rfl | rfl
      · exact Nat.ne_of_gt HG5.out.1
      · exact Nat.ne_of_lt HGE.out.1))
    have HE5 := Aside0.mk he5.1
    have HS5 : Aside0 (BB ≤ w5.heap.size) := ⟨Nat.le_trans HG5.out.2.2 (Nat.le_of_lt (H5.out.lt (i := 0) rfl))⟩
    clear he5 H4 HE4 KK3
    have c1 := blk_cell (H5.out.get (i := 0) rfl) 1
    have c2 := blk_cell (H5.out.get (i := 0) rfl) 2
    have f1 := blk_frozen (H5.out.get (i := 0) rfl) 1
    have f2 := blk_frozen (H5.out.get (i := 0) rfl) 2
    go_wp2_with fail
    clear c1 c2 f1 f2
    have H6 := Aside0.mk ((H5.out.setCell (i := 0) rfl 1 (.int .u32 t)).setCell (i := 0) rfl 2 (.int .u32 m))
    have HE6 := Aside0.mk (HE5.out.below (((Below.refl BB w5).setCell (p := ⟨g5, 1, none⟩) HG5.out.2.2 (.int .u32 t)).setCell (p := ⟨g5, 2, none⟩) HG5.out.2.2 (.int .u32 m)) HS5.out)
    clear H5 HE5 HS5
    generalize (w5.setCell ⟨g5, 1, none⟩ (.int .u32 t)).setCell ⟨g5, 2, none⟩ (.int .u32 m) = W6 at *
    have H7 : Aside0 (Hp B w00 W6 [(g5, .cells #[.int .u8 2, .int .u32 t, .int .u32 m, .int .u32 0, .int .u32 0, .slice none 0 0, .slice none 0 0] 28 (0, 0)), (B, .cells #[.int .u8 0, .int .u32 0, .int .u32 0, .int .u32 0, .int .u32 0, .slice none 0 0, .slice none 0 0] 28 (0, 0))] []) := ⟨H6.out⟩
    clear H6
    refine (done_any ge BB l3 b3 W6 HE6.out).mono ?_
    rintro e w7 ⟨rfl, rfl⟩
    by_cases hd : b3 = true ∨ 0 < l3.length
    · rw [if_pos hd]
      have HDD := Aside0.mk (HT2.out.1 hd)
      clear hd
      go_wp2_with (first | (refine wpList_store_row rfl 28 (.tmp 2) (.tmp 49) rfl B #[.int .u8 0, .int .u32 0, .int .u32 0, .int .u32 0, .int .u32 0, .slice none 0 0, .slice none 0 0] rfl rfl 28 _ (H7.out.get (i := 1) rfl) (msg_info _ _ _ _ _ _ _) rfl (by simp [Value.oneCell']) ?_))
      have H9 := Aside0.mk (H7.out.setRow (i := 1) rfl #[.int .u8 0, .int .u32 0, .int .u32 0, .int .u32 0, .int .u32 0, .slice none 0 0, .slice none 0 0])
      have HRQ : Aside0 (readR q = badR) := ⟨HDD.out⟩
      refine bodyPost_ret (results_ct rfl _ _ B _ #[.int .u8 0, .int .u32 0, .int .u32 0, .int .u32 0, .int .u32 0, .slice none 0 0, .slice none 0 0] (0, 0) _ rfl (H9.out.get (i := 1) rfl) Try.underlying28 rfl (msg_info _ _ _ _ _ _ _)) rfl ?_
      exact ⟨ReadM.of HRQ.out (MsC_zero _ 0 0 0), H9.out.bel⟩
    · rw [if_neg hd]
      have HDD := Aside0.mk (HT2.out.2.1 hd)
      clear hd
      go_wp2_with (first | (refine wpList_load_row_g 28 (.tmp 5) rfl g5 rfl rfl 28 _ (0, 0) _ (H7.out.get (i := 0) rfl) Try.underlying28 rfl (msg_info _ _ _ _ _ _ _) ?_))
      refine (mright_any 2 t m 0 0 [] [] _ _ (MsC_zero _ _ _ _) (OkM_zero (by omega) HT2.out.2.2.1 HT2.out.2.2.2)).mono ?_
      rintro e w8 ⟨rfl, hb8⟩
      have H8 := Aside0.mk (H7.out.call hb8)
      rw [show rightM 2 t m 0 0 [] [] = true by unfold rightM isZ; simp]
      clear hb8 H7 HE6
      go_wp2_with (first | (refine wpList_load_row_g 28 (.tmp 5) rfl g5 rfl rfl 28 _ (0, 0) _ (H8.out.get (i := 0) rfl) Try.underlying28 rfl (msg_info _ _ _ _ _ _ _) ?_) | (refine wpList_store_row rfl 28 (.tmp 2) (.tmp 50) rfl B #[.int .u8 2, .int .u32 t, .int .u32 m, .int .u32 0, .int .u32 0, .slice none 0 0, .slice none 0 0] rfl rfl 28 _ (H8.out.get (i := 1) rfl) (msg_info _ _ _ _ _ _ _) rfl (by simp [Value.oneCell']) ?_))
      have H9 := Aside0.mk ((H8.out).setRow (i := 1) rfl #[.int .u8 2, .int .u32 t, .int .u32 m, .int .u32 0, .int .u32 0, .slice none 0 0, .slice none 0 0])
      have HRQ : Aside0 (readR q = ⟨true, 2, t, m, 0, 0, [], []⟩) := ⟨HDD.out⟩
      refine bodyPost_ret (results_ct rfl _ _ B _ #[.int .u8 2, .int .u32 t, .int .u32 m, .int .u32 0, .int .u32 0, .slice none 0 0, .slice none 0 0] (0, 0) _ rfl (H9.out.get (i := 1) rfl) Try.underlying28 rfl (msg_info _ _ _ _ _ _ _)) rfl ?_
      exact ⟨ReadM.of HRQ.out (MsC_zero _ _ _ _), H9.out.bel⟩
  · skip
    by_cases x5 : x = 5
    · subst x5
      have HQ2 : Aside0 (q = 5 :: l1 ∧ b1 = false) := ⟨by rcases HQ.out with h | h; exact absurd h.2.1 (by decide); exact h⟩
      have hq1 : n = l1.length + 1 := by have := HN.out.2.2; rw [HQ2.out.1] at this; simpa using this.symm
      obtain ⟨A9, z1, z2, _⟩ := eye_lo (P := Try.prog) .u8 .i64 23 5 1 Try.underlying23 np_info A n c 1 (by omega) HN.out.2.1
      have hn1 : (1 : Int) ≤ n := by omega
      clear hq1
      have Z1 : Aside0 (∀ W : World, (Instr.slice 23 (.slice A n c) (some (.int .i64 1)) none none).run Try.prog W = .ok (.slice A9 (n - 1) (c - 1)) W) := ⟨fun W => z1 W⟩
      have Z2 : Aside0 (∀ z, Below B w00 z → (Kd.int .u8).C z A9 (n - 1) l1) := ⟨fun z hz => by have := z2 z q (HF.out z hz); rw [HQ2.out.1] at this; exact this⟩
      clear z1 z2
      have z1 := Z1.out
      go_wp2_with fail
      generalize w2.alloc (.cells #[.int .u8 5, .int .u32 0, .int .u32 0, .int .u32 0, .int .u32 0, .slice none 0 0, .slice none 0 0] 28) = W3 at *
      clear z1 Z1 hg5
      refine (parse_any A9 (n - 1) (c - 1) l1 W3 (Z2.out _ H3.out.bel) (by have := HN.out.1; omega) HBL1.out).mono ?_
      rintro e w4 ⟨hp4, hb4⟩
      obtain ⟨A5, n5, c5, A6, n6, c6, rfl, hD4⟩ := parse_formR hp4
      obtain ⟨g6, hg6⟩ : ∃ g6, w4.heap.size = g6 := ⟨_, rfl⟩
      have H4 := Aside0.mk ((H3.out.ofR hb4 hD4).allocAt (.cells #[.int .u32 (tkQ l1), .int .u32 (hsQ l1), .slice A5 n5 c5, .slice A6 n6 c6] 26) g6 hg6)
      clear hp4 hb4 hD4 H3 HE3
      obtain ⟨β, hβ⟩ : ∃ β, okD l1 = β := ⟨_, rfl⟩
      have HEC : ecD l1 = if β = true then 0 else 2 := by unfold ecD; rw [hβ]
      have HBE := Aside0.mk hβ
      clear hβ
      cases β with
      | false =>
        rw [if_neg (by decide)] at HEC
        rw [HEC]
        clear HEC
        go_wp2_with (first | (refine wpList_store_row rfl 28 (.tmp 2) (.tmp 34) rfl B #[.int .u8 0, .int .u32 0, .int .u32 0, .int .u32 0, .int .u32 0, .slice none 0 0, .slice none 0 0] rfl rfl 28 _ (H4.out.get (i := 2) rfl) (msg_info _ _ _ _ _ _ _) rfl (by simp [Value.oneCell']) ?_))
        have H9 := Aside0.mk (H4.out.setRow (i := 2) rfl #[.int .u8 0, .int .u32 0, .int .u32 0, .int .u32 0, .int .u32 0, .slice none 0 0, .slice none 0 0])
        have HRQ : Aside0 (readR q = badR) := ⟨by rw [HQ2.out.1, readR_five _ (by decide) (by decide), if_neg (by rw [HBE.out]; decide)]⟩
        refine bodyPost_ret (results_ct rfl _ _ B _ #[.int .u8 0, .int .u32 0, .int .u32 0, .int .u32 0, .int .u32 0, .slice none 0 0, .slice none 0 0] (0, 0) _ rfl (H9.out.get (i := 2) rfl) Try.underlying28 rfl (msg_info _ _ _ _ _ _ _)) rfl ?_
        exact ⟨ReadM.of HRQ.out (MsC_zero _ 0 0 0), H9.out.bel⟩
      | true =>
        rw [if_pos rfl] at HEC
        rw [HEC]
        clear HEC
        go_wp2_with fail
        generalize hW5 : w4.alloc (.cells #[.int .u32 (tkQ l1), .int .u32 (hsQ l1), .slice A5 n5 c5, .slice A6 n6 c6] 26) = W5 at *
        clear hW5 hg6
        refine regionS (W := W5)
          [fun _ v => v = .agg #[.int .u32 (tkQ l1), .int .u32 (hsQ l1), .slice A5 n5 c5, .slice A6 n6 c6],
           fun _ v => v = .pointer (some ⟨g6, 0, none⟩),
           fun _ v => v = .int .u32 (tkQ l1),
           fun _ v => v = .pointer (some ⟨g5, 3, none⟩),
           fun _ _ => True,
           fun _ v => v = .pointer (some ⟨g5, 1, none⟩),
           fun _ _ => True]
          [4, 6]
          (fun t => match t with | 0 => fun (rs : List Value) (w : World) => Hp B w00 w [(g6, .cells #[.int .u32 (tkQ l1), .int .u32 (hsQ l1), .slice A5 n5 c5, .slice A6 n6 c6] 26 (0, 0)), (g5, .cells #[.int .u8 5, .int .u32 0, .int .u32 0, .int .u32 0, .int .u32 0, .slice none 0 0, .slice none 0 0] 28 (0, 0)), (B, .cells #[.int .u8 0, .int .u32 0, .int .u32 0, .int .u32 0, .int .u32 0, .slice none 0 0, .slice none 0 0] 28 (0, 0))] [fun X => OfR B X (tkQ l1) (hsQ l1) (plQ l1) (clQ l1) (.agg #[.int .u32 (tkQ l1), .int .u32 (hsQ l1), .slice A5 n5 c5, .slice A6 n6 c6])] | 1 => fun (rs : List Value) (w : World) => Hp B w00 w [(g6, .cells #[.int .u32 (tkQ l1), .int .u32 (hsQ l1), .slice A5 n5 c5, .slice A6 n6 c6] 26 (0, 0)), (g5, .cells #[.int .u8 5, .int .u32 0, .int .u32 0, .int .u32 (tkQ l1), .int .u32 (hsQ l1), .slice A5 n5 c5, .slice A6 n6 c6] 28 (0, 0)), (B, .cells #[.int .u8 0, .int .u32 0, .int .u32 0, .int .u32 0, .int .u32 0, .slice none 0 0, .slice none 0 0] 28 (0, 0))] [fun X => OfR B X (tkQ l1) (hsQ l1) (plQ l1) (clQ l1) (.agg #[.int .u32 (tkQ l1), .int .u32 (hsQ l1), .slice A5 n5 c5, .slice A6 n6 c6])] | 2 => fun (rs : List Value) (w : World) => Hp B w00 w [(g6, .cells #[.int .u32 (tkQ l1), .int .u32 (hsQ l1), .slice A5 n5 c5, .slice A6 n6 c6] 26 (0, 0)), (g5, .cells #[.int .u8 5, .int .u32 (tkQ l1), .int .u32 0, .int .u32 (tkQ l1), .int .u32 (hsQ l1), .slice A5 n5 c5, .slice A6 n6 c6] 28 (0, 0)), (B, .cells #[.int .u8 0, .int .u32 0, .int .u32 0, .int .u32 0, .int .u32 0, .slice none 0 0, .slice none 0 0] 28 (0, 0))] [fun X => OfR B X (tkQ l1) (hsQ l1) (plQ l1) (clQ l1) (.agg #[.int .u32 (tkQ l1), .int .u32 (hsQ l1), .slice A5 n5 c5, .slice A6 n6 c6])] | _ => fun _ _ => False)
          (fun _ _ _ => True) (fun w => ∃ o, Hp B w00 w [(g6, .cells #[.int .u32 (tkQ l1), .int .u32 (hsQ l1), .slice A5 n5 c5, .slice A6 n6 c6] 26 (0, 0)), (g5, o), (B, .cells #[.int .u8 0, .int .u32 0, .int .u32 0, .int .u32 0, .int .u32 0, .slice none 0 0, .slice none 0 0] 28 (0, 0))] [fun X => OfR B X (tkQ l1) (hsQ l1) (plQ l1) (clQ l1) (.agg #[.int .u32 (tkQ l1), .int .u32 (hsQ l1), .slice A5 n5 c5, .slice A6 n6 c6])])
          (fun j =>  none)
          [(0, some 35), (1, some 36), (2, some 37), (3, some 38), (4, none), (5, some 39), (6, none)]
          []
          (by kernel_rfl) (by kernel_rfl) (by kernel_rfl) (by kernel_rfl) (by kernel_rfl) ?z11_1c ?z11_1i ?z11_1b ?z11_1d ?z11_1g ⟨?z11_1t0, ?z11_1t1, ?z11_1t2, ?z11_1t3, ?z11_1t4, ?z11_1t5, ?z11_1t6, trivial⟩ ⟨?z11_1o0, ?z11_1o1, ?z11_1o2, ?z11_1o3, ?z11_1o4, ?z11_1o5, ?z11_1o6, trivial⟩ ?z11_1e
        case z11_1c => exact ⟨_, H4.out.drew⟩
        case z11_1i => exact H4.out.drew
        case z11_1b => intro w w' hb h; obtain ⟨o, h⟩ := h; exact ⟨o, h.call hb⟩
        case z11_1d =>
          intro t rs w w' hb h
          match t, h with
          | 0, h => (replace h : Hp B w00 w [(g6, .cells #[.int .u32 (tkQ l1), .int .u32 (hsQ l1), .slice A5 n5 c5, .slice A6 n6 c6] 26 (0, 0)), (g5, .cells #[.int .u8 5, .int .u32 0, .int .u32 0, .int .u32 0, .int .u32 0, .slice none 0 0, .slice none 0 0] 28 (0, 0)), (B, .cells #[.int .u8 0, .int .u32 0, .int .u32 0, .int .u32 0, .int .u32 0, .slice none 0 0, .slice none 0 0] 28 (0, 0))] [fun X => OfR B X (tkQ l1) (hsQ l1) (plQ l1) (clQ l1) (.agg #[.int .u32 (tkQ l1), .int .u32 (hsQ l1), .slice A5 n5 c5, .slice A6 n6 c6])] := h); show Hp B w00 w' [(g6, .cells #[.int .u32 (tkQ l1), .int .u32 (hsQ l1), .slice A5 n5 c5, .slice A6 n6 c6] 26 (0, 0)), (g5, .cells #[.int .u8 5, .int .u32 0, .int .u32 0, .int .u32 0, .int .u32 0, .slice none 0 0, .slice none 0 0] 28 (0, 0)), (B, .cells #[.int .u8 0, .int .u32 0, .int .u32 0, .int .u32 0, .int .u32 0, .slice none 0 0, .slice none 0 0] 28 (0, 0))] [fun X => OfR B X (tkQ l1) (hsQ l1) (plQ l1) (clQ l1) (.agg #[.int .u32 (tkQ l1), .int .u32 (hsQ l1), .slice A5 n5 c5, .slice A6 n6 c6])]; exact Hp.call h hb
          | 1, h => (replace h : Hp B w00 w [(g6, .cells #[.int .u32 (tkQ l1), .int .u32 (hsQ l1), .slice A5 n5 c5, .slice A6 n6 c6] 26 (0, 0)), (g5, .cells #[.int .u8 5, .int .u32 0, .int .u32 0, .int .u32 (tkQ l1), .int .u32 (hsQ l1), .slice A5 n5 c5, .slice A6 n6 c6] 28 (0, 0)), (B, .cells #[.int .u8 0, .int .u32 0, .int .u32 0, .int .u32 0, .int .u32 0, .slice none 0 0, .slice none 0 0] 28 (0, 0))] [fun X => OfR B X (tkQ l1) (hsQ l1) (plQ l1) (clQ l1) (.agg #[.int .u32 (tkQ l1), .int .u32 (hsQ l1), .slice A5 n5 c5, .slice A6 n6 c6])] := h); show Hp B w00 w' [(g6, .cells #[.int .u32 (tkQ l1), .int .u32 (hsQ l1), .slice A5 n5 c5, .slice A6 n6 c6] 26 (0, 0)), (g5, .cells #[.int .u8 5, .int .u32 0, .int .u32 0, .int .u32 (tkQ l1), .int .u32 (hsQ l1), .slice A5 n5 c5, .slice A6 n6 c6] 28 (0, 0)), (B, .cells #[.int .u8 0, .int .u32 0, .int .u32 0, .int .u32 0, .int .u32 0, .slice none 0 0, .slice none 0 0] 28 (0, 0))] [fun X => OfR B X (tkQ l1) (hsQ l1) (plQ l1) (clQ l1) (.agg #[.int .u32 (tkQ l1), .int .u32 (hsQ l1), .slice A5 n5 c5, .slice A6 n6 c6])]; exact Hp.call h hb
          | 2, h => (replace h : Hp B w00 w [(g6, .cells #[.int .u32 (tkQ l1), .int .u32 (hsQ l1), .slice A5 n5 c5, .slice A6 n6 c6] 26 (0, 0)), (g5, .cells #[.int .u8 5, .int .u32 (tkQ l1), .int .u32 0, .int .u32 (tkQ l1), .int .u32 (hsQ l1), .slice A5 n5 c5, .slice A6 n6 c6] 28 (0, 0)), (B, .cells #[.int .u8 0, .int .u32 0, .int .u32 0, .int .u32 0, .int .u32 0, .slice none 0 0, .slice none 0 0] 28 (0, 0))] [fun X => OfR B X (tkQ l1) (hsQ l1) (plQ l1) (clQ l1) (.agg #[.int .u32 (tkQ l1), .int .u32 (hsQ l1), .slice A5 n5 c5, .slice A6 n6 c6])] := h); show Hp B w00 w' [(g6, .cells #[.int .u32 (tkQ l1), .int .u32 (hsQ l1), .slice A5 n5 c5, .slice A6 n6 c6] 26 (0, 0)), (g5, .cells #[.int .u8 5, .int .u32 (tkQ l1), .int .u32 0, .int .u32 (tkQ l1), .int .u32 (hsQ l1), .slice A5 n5 c5, .slice A6 n6 c6] 28 (0, 0)), (B, .cells #[.int .u8 0, .int .u32 0, .int .u32 0, .int .u32 0, .int .u32 0, .slice none 0 0, .slice none 0 0] 28 (0, 0))] [fun X => OfR B X (tkQ l1) (hsQ l1) (plQ l1) (clQ l1) (.agg #[.int .u32 (tkQ l1), .int .u32 (hsQ l1), .slice A5 n5 c5, .slice A6 n6 c6])]; exact Hp.call h hb
          | _ + 3, h => exact h.elim
        case z11_1g =>
          intro j hj; cases hj
        case z11_1t0 => exact StabS.const _ _ _ _
        case z11_1t1 => exact StabS.const _ _ _ _
        case z11_1t2 => exact StabS.const _ _ _ _
        case z11_1t3 => exact StabS.const _ _ _ _
        case z11_1t4 => exact StabS.const _ _ _ _
        case z11_1t5 => exact StabS.const _ _ _ _
        case z11_1t6 => exact StabS.const _ _ _ _
        case z11_1o0 =>
          intro vs w t hC ht1 ht2 hS hV
          rw [if_pos (by kernel_rfl)]
          generalize hρ : rho _ _ _ vs = ρ
          have e6 : ρ (.tmp 6) = .pointer (some ⟨g6, 0, none⟩) := by rw [← hρ]; kernel_rfl
          clear hρ hV
          obtain ⟨o, hH⟩ := hC
          have c0 := blk_cell (hH.get (i := 0) rfl) 0
          have c1 := blk_cell (hH.get (i := 0) rfl) 1
          have c2 := blk_cell (hH.get (i := 0) rfl) 2
          have c3 := blk_cell (hH.get (i := 0) rfl) 3
          refine runs_val (v := .agg #[.int .u32 (tkQ l1), .int .u32 (hsQ l1), .slice A5 n5 c5, .slice A6 n6 c6]) (w' := w) ?_ ⟨Below.refl _ _, rfl⟩
          clear ht1 ht2 hS hH
          go_simp
        case z11_1o1 =>
          intro vs w t hC ht1 ht2 hS hV
          rw [if_pos (by kernel_rfl)]
          generalize hρ : rho _ _ _ vs = ρ
          have e6 : ρ (.tmp 6) = .pointer (some ⟨g6, 0, none⟩) := by rw [← hρ]; kernel_rfl
          clear hρ hV
          refine runs_val (v := .pointer (some ⟨g6, 0, none⟩)) (w' := w) ?_ ⟨Below.refl _ _, rfl⟩
          clear ht1 ht2 hS hC
          go_simp <;> (first | exact IntWalk.u64_in _ (by omega) | exact IntWalk.u32_in _ (by omega) | exact IntWalk.u16_in _ (by omega) | exact IntWalk.u8_in _ (by omega) | exact IntWalk.i64_in _ (by omega) | skip)
        case z11_1o2 =>
          intro vs w t hC ht1 ht2 hS hV
          rw [if_pos (by kernel_rfl)]
          generalize hρ : rho _ _ _ vs = ρ
          have d36 : (vs 1) = .pointer (some ⟨g6, 0, none⟩) := hV 1 (by kernel_rfl)
          have e36 : ρ (.tmp 36) = vs 1 := by rw [← hρ]; kernel_rfl
          rw [d36] at e36; clear d36
          clear hρ hV
          obtain ⟨o, hH⟩ := hC
          have c0 := blk_cell (hH.get (i := 0) rfl) 0
          refine runs_val (v := .int .u32 (tkQ l1)) (w' := w) ?_ ⟨Below.refl _ _, rfl⟩
          clear ht1 ht2 hS hH
          go_simp
        case z11_1o3 =>
          intro vs w t hC ht1 ht2 hS hV
          rw [if_pos (by kernel_rfl)]
          generalize hρ : rho _ _ _ vs = ρ
          have e5 : ρ (.tmp 5) = .pointer (some ⟨g5, 0, none⟩) := by rw [← hρ]; kernel_rfl
          clear hρ hV
          refine runs_val (v := .pointer (some ⟨g5, 3, none⟩)) (w' := w) ?_ ⟨Below.refl _ _, rfl⟩
          clear ht1 ht2 hS hC
          go_simp <;> (first | exact IntWalk.u64_in _ (by omega) | exact IntWalk.u32_in _ (by omega) | exact IntWalk.u16_in _ (by omega) | exact IntWalk.u8_in _ (by omega) | exact IntWalk.i64_in _ (by omega) | skip)
        case z11_1o4 =>
          intro vs w hC hS hV
          replace hS : Hp B w00 w [(g6, .cells #[.int .u32 (tkQ l1), .int .u32 (hsQ l1), .slice A5 n5 c5, .slice A6 n6 c6] 26 (0, 0)), (g5, .cells #[.int .u8 5, .int .u32 0, .int .u32 0, .int .u32 0, .int .u32 0, .slice none 0 0, .slice none 0 0] 28 (0, 0)), (B, .cells #[.int .u8 0, .int .u32 0, .int .u32 0, .int .u32 0, .int .u32 0, .slice none 0 0, .slice none 0 0] 28 (0, 0))] [fun X => OfR B X (tkQ l1) (hsQ l1) (plQ l1) (clQ l1) (.agg #[.int .u32 (tkQ l1), .int .u32 (hsQ l1), .slice A5 n5 c5, .slice A6 n6 c6])] := hS
          rw [if_pos (by kernel_rfl)]
          generalize hρ : rho _ _ _ vs = ρ
          have d38 : (vs 3) = .pointer (some ⟨g5, 3, none⟩) := hV 3 (by kernel_rfl)
          have e38 : ρ (.tmp 38) = vs 3 := by rw [← hρ]; kernel_rfl
          rw [d38] at e38; clear d38
          have d35 : (vs 0) = .agg #[.int .u32 (tkQ l1), .int .u32 (hsQ l1), .slice A5 n5 c5, .slice A6 n6 c6] := hV 0 (by kernel_rfl)
          have e35 : ρ (.tmp 35) = vs 0 := by rw [← hρ]; kernel_rfl
          rw [d35] at e35; clear d35
          clear hρ hV
          have c3 := blk_cell (hS.get (i := 1) rfl) 3
          have c4 := blk_cell (hS.get (i := 1) rfl) 4
          have c5' := blk_cell (hS.get (i := 1) rfl) 5
          have c6' := blk_cell (hS.get (i := 1) rfl) 6
          have f3 := blk_frozen (hS.get (i := 1) rfl) 3
          have f4 := blk_frozen (hS.get (i := 1) rfl) 4
          have f5 := blk_frozen (hS.get (i := 1) rfl) 5
          have f6 := blk_frozen (hS.get (i := 1) rfl) 6
          have hH := (((hS.setCell (i := 1) rfl 3 (.int .u32 (tkQ l1))).setCell (i := 1) rfl 4 (.int .u32 (hsQ l1))).setCell (i := 1) rfl 5 (.slice A5 n5 c5)).setCell (i := 1) rfl 6 (.slice A6 n6 c6)
          refine runs_skip (w' := (((w.setCell ⟨g5, 3, none⟩ (.int .u32 (tkQ l1))).setCell ⟨g5, 4, none⟩ (.int .u32 (hsQ l1))).setCell ⟨g5, 5, none⟩ (.slice A5 n5 c5)).setCell ⟨g5, 6, none⟩ (.slice A6 n6 c6)) ?_ ⟨⟨_, hH⟩, trivial, trivial, hH⟩
          clear hS hC hH
          go_simp
        case z11_1o5 =>
          intro vs w t hC ht1 ht2 hS hV
          rw [if_pos (by kernel_rfl)]
          generalize hρ : rho _ _ _ vs = ρ
          have e5 : ρ (.tmp 5) = .pointer (some ⟨g5, 0, none⟩) := by rw [← hρ]; kernel_rfl
          clear hρ hV
          refine runs_val (v := .pointer (some ⟨g5, 1, none⟩)) (w' := w) ?_ ⟨Below.refl _ _, rfl⟩
          clear ht1 ht2 hS hC
          go_simp <;> (first | exact IntWalk.u64_in _ (by omega) | exact IntWalk.u32_in _ (by omega) | exact IntWalk.u16_in _ (by omega) | exact IntWalk.u8_in _ (by omega) | exact IntWalk.i64_in _ (by omega) | skip)
        case z11_1o6 =>
          intro vs w hC hS hV
          replace hS : Hp B w00 w [(g6, .cells #[.int .u32 (tkQ l1), .int .u32 (hsQ l1), .slice A5 n5 c5, .slice A6 n6 c6] 26 (0, 0)), (g5, .cells #[.int .u8 5, .int .u32 0, .int .u32 0, .int .u32 (tkQ l1), .int .u32 (hsQ l1), .slice A5 n5 c5, .slice A6 n6 c6] 28 (0, 0)), (B, .cells #[.int .u8 0, .int .u32 0, .int .u32 0, .int .u32 0, .int .u32 0, .slice none 0 0, .slice none 0 0] 28 (0, 0))] [fun X => OfR B X (tkQ l1) (hsQ l1) (plQ l1) (clQ l1) (.agg #[.int .u32 (tkQ l1), .int .u32 (hsQ l1), .slice A5 n5 c5, .slice A6 n6 c6])] := hS
          rw [if_pos (by kernel_rfl)]
          generalize hρ : rho _ _ _ vs = ρ
          have d39 : (vs 5) = .pointer (some ⟨g5, 1, none⟩) := hV 5 (by kernel_rfl)
          have e39 : ρ (.tmp 39) = vs 5 := by rw [← hρ]; kernel_rfl
          rw [d39] at e39; clear d39
          have d37 : (vs 2) = .int .u32 (tkQ l1) := hV 2 (by kernel_rfl)
          have e37 : ρ (.tmp 37) = vs 2 := by rw [← hρ]; kernel_rfl
          rw [d37] at e37; clear d37
          clear hρ hV
          have c1 := blk_cell (hS.get (i := 1) rfl) 1
          have f1 := blk_frozen (hS.get (i := 1) rfl) 1
          have hH := hS.setCell (i := 1) rfl 1 (.int .u32 (tkQ l1))
          refine runs_skip (w' := w.setCell ⟨g5, 1, none⟩ (.int .u32 (tkQ l1))) ?_ ⟨⟨_, hH⟩, trivial, trivial, hH⟩
          clear hS hC hH
          go_simp
        case z11_1e =>
          intro vs W7 hC hS hV
          replace hS : (fun (w : World) => Hp B w00 w [(g6, .cells #[.int .u32 (tkQ l1), .int .u32 (hsQ l1), .slice A5 n5 c5, .slice A6 n6 c6] 26 (0, 0)), (g5, .cells #[.int .u8 5, .int .u32 (tkQ l1), .int .u32 0, .int .u32 (tkQ l1), .int .u32 (hsQ l1), .slice A5 n5 c5, .slice A6 n6 c6] 28 (0, 0)), (B, .cells #[.int .u8 0, .int .u32 0, .int .u32 0, .int .u32 0, .int .u32 0, .slice none 0 0, .slice none 0 0] 28 (0, 0))] [fun X => OfR B X (tkQ l1) (hsQ l1) (plQ l1) (clQ l1) (.agg #[.int .u32 (tkQ l1), .int .u32 (hsQ l1), .slice A5 n5 c5, .slice A6 n6 c6])]) W7 := hS
          have d35 : (vs 0) = .agg #[.int .u32 (tkQ l1), .int .u32 (hsQ l1), .slice A5 n5 c5, .slice A6 n6 c6] := hV 0 (Nat.le_of_ble_eq_true rfl)
          have d36 : (vs 1) = .pointer (some ⟨g6, 0, none⟩) := hV 1 (Nat.le_of_ble_eq_true rfl)
          have d37 : (vs 2) = .int .u32 (tkQ l1) := hV 2 (Nat.le_of_ble_eq_true rfl)
          have d38 : (vs 3) = .pointer (some ⟨g5, 3, none⟩) := hV 3 (Nat.le_of_ble_eq_true rfl)
          have d39 : (vs 5) = .pointer (some ⟨g5, 1, none⟩) := hV 5 (Nat.le_of_ble_eq_true rfl)
          clear hV
          simp only [putAll]
          rw [d35, d36, d37, d38, d39]
          clear d35 d36 d37 d38 d39
          generalize vs 4 = vN4
          generalize vs 6 = vN6
          clear vs
          simp only [Act.put, List.setIfInBounds_toArray, List.set_cons_zero, List.set_cons_succ]
          have H7 := Aside0.mk hS
          clear hS hC
          go_wp2_with (first | (refine wpList_load_row_g 28 (.tmp 5) rfl g5 rfl rfl 28 _ (0, 0) _ (H7.out.get (i := 1) rfl) Try.underlying28 rfl (msg_info _ _ _ _ _ _ _) ?_) | (refine wpList_store_row rfl 28 (.tmp 2) (.tmp 40) rfl B #[.int .u8 5, .int .u32 (tkQ l1), .int .u32 0, .int .u32 (tkQ l1), .int .u32 (hsQ l1), .slice A5 n5 c5, .slice A6 n6 c6] rfl rfl 28 _ (H7.out.get (i := 2) rfl) (msg_info _ _ _ _ _ _ _) rfl (by simp [Value.oneCell']) ?_))
          have H9 := Aside0.mk (H7.out.setRow (i := 2) rfl #[.int .u8 5, .int .u32 (tkQ l1), .int .u32 0, .int .u32 (tkQ l1), .int .u32 (hsQ l1), .slice A5 n5 c5, .slice A6 n6 c6])
          have HRQ : Aside0 (readR q = ⟨true, 5, tkQ l1, 0, tkQ l1, hsQ l1, plQ l1, clQ l1⟩) := ⟨by rw [HQ2.out.1, readR_five _ (by decide) (by decide), if_pos HBE.out]⟩
          refine bodyPost_ret (results_ct rfl _ _ B _ #[.int .u8 5, .int .u32 (tkQ l1), .int .u32 0, .int .u32 (tkQ l1), .int .u32 (hsQ l1), .slice A5 n5 c5, .slice A6 n6 c6] (0, 0) _ rfl (H9.out.get (i := 2) rfl) Try.underlying28 rfl (msg_info _ _ _ _ _ _ _)) rfl ?_
          exact ⟨ReadM.of HRQ.out (OfR.msg (H9.out.fact (i := 0) rfl)), H9.out.bel⟩
    · skip
      by_cases x6 : x = 6
      · subst x6
        have HQ2 : Aside0 (q = 6 :: l1 ∧ b1 = false) := ⟨by rcases HQ.out with h | h; exact absurd h.2.1 (by decide); exact h⟩
        have hq1 : n = l1.length + 1 := by have := HN.out.2.2; rw [HQ2.out.1] at this; simpa using this.symm
        obtain ⟨A9, z1, z2, _⟩ := eye_lo (P := Try.prog) .u8 .i64 23 5 1 Try.underlying23 np_info A n c 1 (by omega) HN.out.2.1
        have hn1 : (1 : Int) ≤ n := by omega
        clear hq1
        have Z1 : Aside0 (∀ W : World, (Instr.slice 23 (.slice A n c) (some (.int .i64 1)) none none).run Try.prog W = .ok (.slice A9 (n - 1) (c - 1)) W) := ⟨fun W => z1 W⟩
        have Z2 : Aside0 (∀ z, Below B w00 z → (Kd.int .u8).C z A9 (n - 1) l1) := ⟨fun z hz => by have := z2 z q (HF.out z hz); rw [HQ2.out.1] at this; exact this⟩
        clear z1 z2
        have z1 := Z1.out
        go_wp2_with fail
        generalize w2.alloc (.cells #[.int .u8 6, .int .u32 0, .int .u32 0, .int .u32 0, .int .u32 0, .slice none 0 0, .slice none 0 0] 28) = W3 at *
        clear z1 Z1 hg5
        refine (parse_any A9 (n - 1) (c - 1) l1 W3 (Z2.out _ H3.out.bel) (by have := HN.out.1; omega) HBL1.out).mono ?_
        rintro e w4 ⟨hp4, hb4⟩
        obtain ⟨A5, n5, c5, A6, n6, c6, rfl, hD4⟩ := parse_formR hp4
        obtain ⟨g6, hg6⟩ : ∃ g6, w4.heap.size = g6 := ⟨_, rfl⟩
        have H4 := Aside0.mk ((H3.out.ofR hb4 hD4).allocAt (.cells #[.int .u32 (tkQ l1), .int .u32 (hsQ l1), .slice A5 n5 c5, .slice A6 n6 c6] 26) g6 hg6)
        clear hp4 hb4 hD4 H3 HE3
        obtain ⟨β, hβ⟩ : ∃ β, okD l1 = β := ⟨_, rfl⟩
        have HEC : ecD l1 = if β = true then 0 else 2 := by unfold ecD; rw [hβ]
        have HBE := Aside0.mk hβ
        clear hβ
        cases β with
        | false =>
          rw [if_neg (by decide)] at HEC
          rw [HEC]
          clear HEC
          go_wp2_with (first | (refine wpList_store_row rfl 28 (.tmp 2) (.tmp 34) rfl B #[.int .u8 0, .int .u32 0, .int .u32 0, .int .u32 0, .int .u32 0, .slice none 0 0, .slice none 0 0] rfl rfl 28 _ (H4.out.get (i := 2) rfl) (msg_info _ _ _ _ _ _ _) rfl (by simp [Value.oneCell']) ?_))
          have H9 := Aside0.mk (H4.out.setRow (i := 2) rfl #[.int .u8 0, .int .u32 0, .int .u32 0, .int .u32 0, .int .u32 0, .slice none 0 0, .slice none 0 0])
          have HRQ : Aside0 (readR q = badR) := ⟨by rw [HQ2.out.1, readR_five _ (by decide) (by decide), if_neg (by rw [HBE.out]; decide)]⟩
          refine bodyPost_ret (results_ct rfl _ _ B _ #[.int .u8 0, .int .u32 0, .int .u32 0, .int .u32 0, .int .u32 0, .slice none 0 0, .slice none 0 0] (0, 0) _ rfl (H9.out.get (i := 2) rfl) Try.underlying28 rfl (msg_info _ _ _ _ _ _ _)) rfl ?_
          exact ⟨ReadM.of HRQ.out (MsC_zero _ 0 0 0), H9.out.bel⟩
        | true =>
          rw [if_pos rfl] at HEC
          rw [HEC]
          clear HEC
          go_wp2_with fail
          generalize hW5 : w4.alloc (.cells #[.int .u32 (tkQ l1), .int .u32 (hsQ l1), .slice A5 n5 c5, .slice A6 n6 c6] 26) = W5 at *
          clear hW5 hg6
          refine regionS (W := W5)
            [fun _ v => v = .agg #[.int .u32 (tkQ l1), .int .u32 (hsQ l1), .slice A5 n5 c5, .slice A6 n6 c6],
             fun _ v => v = .pointer (some ⟨g6, 0, none⟩),
             fun _ v => v = .int .u32 (tkQ l1),
             fun _ v => v = .pointer (some ⟨g5, 3, none⟩),
             fun _ _ => True,
             fun _ v => v = .pointer (some ⟨g5, 1, none⟩),
             fun _ _ => True]
            [4, 6]
            (fun t => match t with | 0 => fun (rs : List Value) (w : World) => Hp B w00 w [(g6, .cells #[.int .u32 (tkQ l1), .int .u32 (hsQ l1), .slice A5 n5 c5, .slice A6 n6 c6] 26 (0, 0)), (g5, .cells #[.int .u8 6, .int .u32 0, .int .u32 0, .int .u32 0, .int .u32 0, .slice none 0 0, .slice none 0 0] 28 (0, 0)), (B, .cells #[.int .u8 0, .int .u32 0, .int .u32 0, .int .u32 0, .int .u32 0, .slice none 0 0, .slice none 0 0] 28 (0, 0))] [fun X => OfR B X (tkQ l1) (hsQ l1) (plQ l1) (clQ l1) (.agg #[.int .u32 (tkQ l1), .int .u32 (hsQ l1), .slice A5 n5 c5, .slice A6 n6 c6])] | 1 => fun (rs : List Value) (w : World) => Hp B w00 w [(g6, .cells #[.int .u32 (tkQ l1), .int .u32 (hsQ l1), .slice A5 n5 c5, .slice A6 n6 c6] 26 (0, 0)), (g5, .cells #[.int .u8 6, .int .u32 0, .int .u32 0, .int .u32 (tkQ l1), .int .u32 (hsQ l1), .slice A5 n5 c5, .slice A6 n6 c6] 28 (0, 0)), (B, .cells #[.int .u8 0, .int .u32 0, .int .u32 0, .int .u32 0, .int .u32 0, .slice none 0 0, .slice none 0 0] 28 (0, 0))] [fun X => OfR B X (tkQ l1) (hsQ l1) (plQ l1) (clQ l1) (.agg #[.int .u32 (tkQ l1), .int .u32 (hsQ l1), .slice A5 n5 c5, .slice A6 n6 c6])] | 2 => fun (rs : List Value) (w : World) => Hp B w00 w [(g6, .cells #[.int .u32 (tkQ l1), .int .u32 (hsQ l1), .slice A5 n5 c5, .slice A6 n6 c6] 26 (0, 0)), (g5, .cells #[.int .u8 6, .int .u32 (tkQ l1), .int .u32 0, .int .u32 (tkQ l1), .int .u32 (hsQ l1), .slice A5 n5 c5, .slice A6 n6 c6] 28 (0, 0)), (B, .cells #[.int .u8 0, .int .u32 0, .int .u32 0, .int .u32 0, .int .u32 0, .slice none 0 0, .slice none 0 0] 28 (0, 0))] [fun X => OfR B X (tkQ l1) (hsQ l1) (plQ l1) (clQ l1) (.agg #[.int .u32 (tkQ l1), .int .u32 (hsQ l1), .slice A5 n5 c5, .slice A6 n6 c6])] | _ => fun _ _ => False)
            (fun _ _ _ => True) (fun w => ∃ o, Hp B w00 w [(g6, .cells #[.int .u32 (tkQ l1), .int .u32 (hsQ l1), .slice A5 n5 c5, .slice A6 n6 c6] 26 (0, 0)), (g5, o), (B, .cells #[.int .u8 0, .int .u32 0, .int .u32 0, .int .u32 0, .int .u32 0, .slice none 0 0, .slice none 0 0] 28 (0, 0))] [fun X => OfR B X (tkQ l1) (hsQ l1) (plQ l1) (clQ l1) (.agg #[.int .u32 (tkQ l1), .int .u32 (hsQ l1), .slice A5 n5 c5, .slice A6 n6 c6])])
            (fun j =>  none)
            [(0, some 35), (1, some 36), (2, some 37), (3, some 38), (4, none), (5, some 39), (6, none)]
            []
            (by kernel_rfl) (by kernel_rfl) (by kernel_rfl) (by kernel_rfl) (by kernel_rfl) ?z11_2c ?z11_2i ?z11_2b ?z11_2d ?z11_2g ⟨?z11_2t0, ?z11_2t1, ?z11_2t2, ?z11_2t3, ?z11_2t4, ?z11_2t5, ?z11_2t6, trivial⟩ ⟨?z11_2o0, ?z11_2o1, ?z11_2o2, ?z11_2o3, ?z11_2o4, ?z11_2o5, ?z11_2o6, trivial⟩ ?z11_2e
          case z11_2c => exact ⟨_, H4.out.drew⟩
          case z11_2i => exact H4.out.drew
          case z11_2b => intro w w' hb h; obtain ⟨o, h⟩ := h; exact ⟨o, h.call hb⟩
          case z11_2d =>
            intro t rs w w' hb h
            match t, h with
            | 0, h => (replace h : Hp B w00 w [(g6, .cells #[.int .u32 (tkQ l1), .int .u32 (hsQ l1), .slice A5 n5 c5, .slice A6 n6 c6] 26 (0, 0)), (g5, .cells #[.int .u8 6, .int .u32 0, .int .u32 0, .int .u32 0, .int .u32 0, .slice none 0 0, .slice none 0 0] 28 (0, 0)), (B, .cells #[.int .u8 0, .int .u32 0, .int .u32 0, .int .u32 0, .int .u32 0, .slice none 0 0, .slice none 0 0] 28 (0, 0))] [fun X => OfR B X (tkQ l1) (hsQ l1) (plQ l1) (clQ l1) (.agg #[.int .u32 (tkQ l1), .int .u32 (hsQ l1), .slice A5 n5 c5, .slice A6 n6 c6])] := h); show Hp B w00 w' [(g6, .cells #[.int .u32 (tkQ l1), .int .u32 (hsQ l1), .slice A5 n5 c5, .slice A6 n6 c6] 26 (0, 0)), (g5, .cells #[.int .u8 6, .int .u32 0, .int .u32 0, .int .u32 0, .int .u32 0, .slice none 0 0, .slice none 0 0] 28 (0, 0)), (B, .cells #[.int .u8 0, .int .u32 0, .int .u32 0, .int .u32 0, .int .u32 0, .slice none 0 0, .slice none 0 0] 28 (0, 0))] [fun X => OfR B X (tkQ l1) (hsQ l1) (plQ l1) (clQ l1) (.agg #[.int .u32 (tkQ l1), .int .u32 (hsQ l1), .slice A5 n5 c5, .slice A6 n6 c6])]; exact Hp.call h hb
            | 1, h => (replace h : Hp B w00 w [(g6, .cells #[.int .u32 (tkQ l1), .int .u32 (hsQ l1), .slice A5 n5 c5, .slice A6 n6 c6] 26 (0, 0)), (g5, .cells #[.int .u8 6, .int .u32 0, .int .u32 0, .int .u32 (tkQ l1), .int .u32 (hsQ l1), .slice A5 n5 c5, .slice A6 n6 c6] 28 (0, 0)), (B, .cells #[.int .u8 0, .int .u32 0, .int .u32 0, .int .u32 0, .int .u32 0, .slice none 0 0, .slice none 0 0] 28 (0, 0))] [fun X => OfR B X (tkQ l1) (hsQ l1) (plQ l1) (clQ l1) (.agg #[.int .u32 (tkQ l1), .int .u32 (hsQ l1), .slice A5 n5 c5, .slice A6 n6 c6])] := h); show Hp B w00 w' [(g6, .cells #[.int .u32 (tkQ l1), .int .u32 (hsQ l1), .slice A5 n5 c5, .slice A6 n6 c6] 26 (0, 0)), (g5, .cells #[.int .u8 6, .int .u32 0, .int .u32 0, .int .u32 (tkQ l1), .int .u32 (hsQ l1), .slice A5 n5 c5, .slice A6 n6 c6] 28 (0, 0)), (B, .cells #[.int .u8 0, .int .u32 0, .int .u32 0, .int .u32 0, .int .u32 0, .slice none 0 0, .slice none 0 0] 28 (0, 0))] [fun X => OfR B X (tkQ l1) (hsQ l1) (plQ l1) (clQ l1) (.agg #[.int .u32 (tkQ l1), .int .u32 (hsQ l1), .slice A5 n5 c5, .slice A6 n6 c6])]; exact Hp.call h hb
            | 2, h => (replace h : Hp B w00 w [(g6, .cells #[.int .u32 (tkQ l1), .int .u32 (hsQ l1), .slice A5 n5 c5, .slice A6 n6 c6] 26 (0, 0)), (g5, .cells #[.int .u8 6, .int .u32 (tkQ l1), .int .u32 0, .int .u32 (tkQ l1), .int .u32 (hsQ l1), .slice A5 n5 c5, .slice A6 n6 c6] 28 (0, 0)), (B, .cells #[.int .u8 0, .int .u32 0, .int .u32 0, .int .u32 0, .int .u32 0, .slice none 0 0, .slice none 0 0] 28 (0, 0))] [fun X => OfR B X (tkQ l1) (hsQ l1) (plQ l1) (clQ l1) (.agg #[.int .u32 (tkQ l1), .int .u32 (hsQ l1), .slice A5 n5 c5, .slice A6 n6 c6])] := h); show Hp B w00 w' [(g6, .cells #[.int .u32 (tkQ l1), .int .u32 (hsQ l1), .slice A5 n5 c5, .slice A6 n6 c6] 26 (0, 0)), (g5, .cells #[.int .u8 6, .int .u32 (tkQ l1), .int .u32 0, .int .u32 (tkQ l1), .int .u32 (hsQ l1), .slice A5 n5 c5, .slice A6 n6 c6] 28 (0, 0)), (B, .cells #[.int .u8 0, .int .u32 0, .int .u32 0, .int .u32 0, .int .u32 0, .slice none 0 0, .slice none 0 0] 28 (0, 0))] [fun X => OfR B X (tkQ l1) (hsQ l1) (plQ l1) (clQ l1) (.agg #[.int .u32 (tkQ l1), .int .u32 (hsQ l1), .slice A5 n5 c5, .slice A6 n6 c6])]; exact Hp.call h hb
            | _ + 3, h => exact h.elim
          case z11_2g =>
            intro j hj; cases hj
          case z11_2t0 => exact StabS.const _ _ _ _
          case z11_2t1 => exact StabS.const _ _ _ _
          case z11_2t2 => exact StabS.const _ _ _ _
          case z11_2t3 => exact StabS.const _ _ _ _
          case z11_2t4 => exact StabS.const _ _ _ _
          case z11_2t5 => exact StabS.const _ _ _ _
          case z11_2t6 => exact StabS.const _ _ _ _
          case z11_2o0 =>
            intro vs w t hC ht1 ht2 hS hV
            rw [if_pos (by kernel_rfl)]
            generalize hρ : rho _ _ _ vs = ρ
            have e6 : ρ (.tmp 6) = .pointer (some ⟨g6, 0, none⟩) := by rw [← hρ]; kernel_rfl
            clear hρ hV
            obtain ⟨o, hH⟩ := hC
            have c0 := blk_cell (hH.get (i := 0) rfl) 0
            have c1 := blk_cell (hH.get (i := 0) rfl) 1
            have c2 := blk_cell (hH.get (i := 0) rfl) 2
            have c3 := blk_cell (hH.get (i := 0) rfl) 3
            refine runs_val (v := .agg #[.int .u32 (tkQ l1), .int .u32 (hsQ l1), .slice A5 n5 c5, .slice A6 n6 c6]) (w' := w) ?_ ⟨Below.refl _ _, rfl⟩
            clear ht1 ht2 hS hH
            go_simp
          case z11_2o1 =>
            intro vs w t hC ht1 ht2 hS hV
            rw [if_pos (by kernel_rfl)]
            generalize hρ : rho _ _ _ vs = ρ
            have e6 : ρ (.tmp 6) = .pointer (some ⟨g6, 0, none⟩) := by rw [← hρ]; kernel_rfl
            clear hρ hV
            refine runs_val (v := .pointer (some ⟨g6, 0, none⟩)) (w' := w) ?_ ⟨Below.refl _ _, rfl⟩
            clear ht1 ht2 hS hC
            go_simp <;> (first | exact IntWalk.u64_in _ (by omega) | exact IntWalk.u32_in _ (by omega) | exact IntWalk.u16_in _ (by omega) | exact IntWalk.u8_in _ (by omega) | exact IntWalk.i64_in _ (by omega) | skip)
          case z11_2o2 =>
            intro vs w t hC ht1 ht2 hS hV
            rw [if_pos (by kernel_rfl)]
            generalize hρ : rho _ _ _ vs = ρ
            have d36 : (vs 1) = .pointer (some ⟨g6, 0, none⟩) := hV 1 (by kernel_rfl)
            have e36 : ρ (.tmp 36) = vs 1 := by rw [← hρ]; kernel_rfl
            rw [d36] at e36; clear d36
            clear hρ hV
            obtain ⟨o, hH⟩ := hC
            have c0 := blk_cell (hH.get (i := 0) rfl) 0
            refine runs_val (v := .int .u32 (tkQ l1)) (w' := w) ?_ ⟨Below.refl _ _, rfl⟩
            clear ht1 ht2 hS hH
            go_simp
          case z11_2o3 =>
            intro vs w t hC ht1 ht2 hS hV
            rw [if_pos (by kernel_rfl)]
            generalize hρ : rho _ _ _ vs = ρ
            have e5 : ρ (.tmp 5) = .pointer (some ⟨g5, 0, none⟩) := by rw [← hρ]; kernel_rfl
            clear hρ hV
            refine runs_val (v := .pointer (some ⟨g5, 3, none⟩)) (w' := w) ?_ ⟨Below.refl _ _, rfl⟩
            clear ht1 ht2 hS hC
            go_simp <;> (first | exact IntWalk.u64_in _ (by omega) | exact IntWalk.u32_in _ (by omega) | exact IntWalk.u16_in _ (by omega) | exact IntWalk.u8_in _ (by omega) | exact IntWalk.i64_in _ (by omega) | skip)
          case z11_2o4 =>
            intro vs w hC hS hV
            replace hS : Hp B w00 w [(g6, .cells #[.int .u32 (tkQ l1), .int .u32 (hsQ l1), .slice A5 n5 c5, .slice A6 n6 c6] 26 (0, 0)), (g5, .cells #[.int .u8 6, .int .u32 0, .int .u32 0, .int .u32 0, .int .u32 0, .slice none 0 0, .slice none 0 0] 28 (0, 0)), (B, .cells #[.int .u8 0, .int .u32 0, .int .u32 0, .int .u32 0, .int .u32 0, .slice none 0 0, .slice none 0 0] 28 (0, 0))] [fun X => OfR B X (tkQ l1) (hsQ l1) (plQ l1) (clQ l1) (.agg #[.int .u32 (tkQ l1), .int .u32 (hsQ l1), .slice A5 n5 c5, .slice A6 n6 c6])] := hS
            rw [if_pos (by kernel_rfl)]
            generalize hρ : rho _ _ _ vs = ρ
            have d38 : (vs 3) = .pointer (some ⟨g5, 3, none⟩) := hV 3 (by kernel_rfl)
            have e38 : ρ (.tmp 38) = vs 3 := by rw [← hρ]; kernel_rfl
            rw [d38] at e38; clear d38
            have d35 : (vs 0) = .agg #[.int .u32 (tkQ l1), .int .u32 (hsQ l1), .slice A5 n5 c5, .slice A6 n6 c6] := hV 0 (by kernel_rfl)
            have e35 : ρ (.tmp 35) = vs 0 := by rw [← hρ]; kernel_rfl
            rw [d35] at e35; clear d35
            clear hρ hV
            have c3 := blk_cell (hS.get (i := 1) rfl) 3
            have c4 := blk_cell (hS.get (i := 1) rfl) 4
            have c5' := blk_cell (hS.get (i := 1) rfl) 5
            have c6' := blk_cell (hS.get (i := 1) rfl) 6
            have f3 := blk_frozen (hS.get (i := 1) rfl) 3
            have f4 := blk_frozen (hS.get (i := 1) rfl) 4
            have f5 := blk_frozen (hS.get (i := 1) rfl) 5
            have f6 := blk_frozen (hS.get (i := 1) rfl) 6
            have hH := (((hS.setCell (i := 1) rfl 3 (.int .u32 (tkQ l1))).setCell (i := 1) rfl 4 (.int .u32 (hsQ l1))).setCell (i := 1) rfl 5 (.slice A5 n5 c5)).setCell (i := 1) rfl 6 (.slice A6 n6 c6)
            refine runs_skip (w' := (((w.setCell ⟨g5, 3, none⟩ (.int .u32 (tkQ l1))).setCell ⟨g5, 4, none⟩ (.int .u32 (hsQ l1))).setCell ⟨g5, 5, none⟩ (.slice A5 n5 c5)).setCell ⟨g5, 6, none⟩ (.slice A6 n6 c6)) ?_ ⟨⟨_, hH⟩, trivial, trivial, hH⟩
            clear hS hC hH
            go_simp
          case z11_2o5 =>
            intro vs w t hC ht1 ht2 hS hV
            rw [if_pos (by kernel_rfl)]
            generalize hρ : rho _ _ _ vs = ρ
            have e5 : ρ (.tmp 5) = .pointer (some ⟨g5, 0, none⟩) := by rw [← hρ]; kernel_rfl
            clear hρ hV
            refine runs_val (v := .pointer (some ⟨g5, 1, none⟩)) (w' := w) ?_ ⟨Below.refl _ _, rfl⟩
            clear ht1 ht2 hS hC
            go_simp <;> (first | exact IntWalk.u64_in _ (by omega) | exact IntWalk.u32_in _ (by omega) | exact IntWalk.u16_in _ (by omega) | exact IntWalk.u8_in _ (by omega) | exact IntWalk.i64_in _ (by omega) | skip)
          case z11_2o6 =>
            intro vs w hC hS hV
            replace hS : Hp B w00 w [(g6, .cells #[.int .u32 (tkQ l1), .int .u32 (hsQ l1), .slice A5 n5 c5, .slice A6 n6 c6] 26 (0, 0)), (g5, .cells #[.int .u8 6, .int .u32 0, .int .u32 0, .int .u32 (tkQ l1), .int .u32 (hsQ l1), .slice A5 n5 c5, .slice A6 n6 c6] 28 (0, 0)), (B, .cells #[.int .u8 0, .int .u32 0, .int .u32 0, .int .u32 0, .int .u32 0, .slice none 0 0, .slice none 0 0] 28 (0, 0))] [fun X => OfR B X (tkQ l1) (hsQ l1) (plQ l1) (clQ l1) (.agg #[.int .u32 (tkQ l1), .int .u32 (hsQ l1), .slice A5 n5 c5, .slice A6 n6 c6])] := hS
            rw [if_pos (by kernel_rfl)]
            generalize hρ : rho _ _ _ vs = ρ
            have d39 : (vs 5) = .pointer (some ⟨g5, 1, none⟩) := hV 5 (by kernel_rfl)
            have e39 : ρ (.tmp 39) = vs 5 := by rw [← hρ]; kernel_rfl
            rw [d39] at e39; clear d39
            have d37 : (vs 2) = .int .u32 (tkQ l1) := hV 2 (by kernel_rfl)
            have e37 : ρ (.tmp 37) = vs 2 := by rw [← hρ]; kernel_rfl
            rw [d37] at e37; clear d37
            clear hρ hV
            have c1 := blk_cell (hS.get (i := 1) rfl) 1
            have f1 := blk_frozen (hS.get (i := 1) rfl) 1
            have hH := hS.setCell (i := 1) rfl 1 (.int .u32 (tkQ l1))
            refine runs_skip (w' := w.setCell ⟨g5, 1, none⟩ (.int .u32 (tkQ l1))) ?_ ⟨⟨_, hH⟩, trivial, trivial, hH⟩
            clear hS hC hH
            go_simp
          case z11_2e =>
            intro vs W7 hC hS hV
            replace hS : (fun (w : World) => Hp B w00 w [(g6, .cells #[.int .u32 (tkQ l1), .int .u32 (hsQ l1), .slice A5 n5 c5, .slice A6 n6 c6] 26 (0, 0)), (g5, .cells #[.int .u8 6, .int .u32 (tkQ l1), .int .u32 0, .int .u32 (tkQ l1), .int .u32 (hsQ l1), .slice A5 n5 c5, .slice A6 n6 c6] 28 (0, 0)), (B, .cells #[.int .u8 0, .int .u32 0, .int .u32 0, .int .u32 0, .int .u32 0, .slice none 0 0, .slice none 0 0] 28 (0, 0))] [fun X => OfR B X (tkQ l1) (hsQ l1) (plQ l1) (clQ l1) (.agg #[.int .u32 (tkQ l1), .int .u32 (hsQ l1), .slice A5 n5 c5, .slice A6 n6 c6])]) W7 := hS
            have d35 : (vs 0) = .agg #[.int .u32 (tkQ l1), .int .u32 (hsQ l1), .slice A5 n5 c5, .slice A6 n6 c6] := hV 0 (Nat.le_of_ble_eq_true rfl)
            have d36 : (vs 1) = .pointer (some ⟨g6, 0, none⟩) := hV 1 (Nat.le_of_ble_eq_true rfl)
            have d37 : (vs 2) = .int .u32 (tkQ l1) := hV 2 (Nat.le_of_ble_eq_true rfl)
            have d38 : (vs 3) = .pointer (some ⟨g5, 3, none⟩) := hV 3 (Nat.le_of_ble_eq_true rfl)
            have d39 : (vs 5) = .pointer (some ⟨g5, 1, none⟩) := hV 5 (Nat.le_of_ble_eq_true rfl)
            clear hV
            simp only [putAll]
            rw [d35, d36, d37, d38, d39]
            clear d35 d36 d37 d38 d39
            generalize vs 4 = vN4
            generalize vs 6 = vN6
            clear vs
            simp only [Act.put, List.setIfInBounds_toArray, List.set_cons_zero, List.set_cons_succ]
            have H7 := Aside0.mk hS
            clear hS hC
            go_wp2_with (first | (refine wpList_load_row_g 28 (.tmp 5) rfl g5 rfl rfl 28 _ (0, 0) _ (H7.out.get (i := 1) rfl) Try.underlying28 rfl (msg_info _ _ _ _ _ _ _) ?_) | (refine wpList_store_row rfl 28 (.tmp 2) (.tmp 40) rfl B #[.int .u8 6, .int .u32 (tkQ l1), .int .u32 0, .int .u32 (tkQ l1), .int .u32 (hsQ l1), .slice A5 n5 c5, .slice A6 n6 c6] rfl rfl 28 _ (H7.out.get (i := 2) rfl) (msg_info _ _ _ _ _ _ _) rfl (by simp [Value.oneCell']) ?_))
            have H9 := Aside0.mk (H7.out.setRow (i := 2) rfl #[.int .u8 6, .int .u32 (tkQ l1), .int .u32 0, .int .u32 (tkQ l1), .int .u32 (hsQ l1), .slice A5 n5 c5, .slice A6 n6 c6])
            have HRQ : Aside0 (readR q = ⟨true, 6, tkQ l1, 0, tkQ l1, hsQ l1, plQ l1, clQ l1⟩) := ⟨by rw [HQ2.out.1, readR_five _ (by decide) (by decide), if_pos HBE.out]⟩
            refine bodyPost_ret (results_ct rfl _ _ B _ #[.int .u8 6, .int .u32 (tkQ l1), .int .u32 0, .int .u32 (tkQ l1), .int .u32 (hsQ l1), .slice A5 n5 c5, .slice A6 n6 c6] (0, 0) _ rfl (H9.out.get (i := 2) rfl) Try.underlying28 rfl (msg_info _ _ _ _ _ _ _)) rfl ?_
            exact ⟨ReadM.of HRQ.out (OfR.msg (H9.out.fact (i := 0) rfl)), H9.out.bel⟩
      · skip
        have HRR : Aside0 (b1 = true ∨ 0 < l1.length → readR q = badR) := ⟨by
          rcases HQ.out with h | h
          · intro _; rw [h.1]; rfl
          · rw [h.1, h.2]
            intro hh
            have h0 : l1.length ≠ 0 := by rcases hh with hh | hh; cases hh; omega
            rw [readR_oth _ x2 (by omega), if_neg h0]; split <;> rfl⟩
        have HRS : Aside0 (¬ (b1 = true ∨ 0 < l1.length) → readR q = if x = 1 ∨ x = 3 ∨ x = 4 then ⟨true, x, 0, 0, 0, 0, [], []⟩ else badR) := ⟨by
          intro hh
          rcases HQ.out with h | h
          · exact absurd (.inl h.2.2.2) hh
          · rw [h.1]
            have h0 : l1.length = 0 := by have := fun e => hh (.inr e); omega
            rw [readR_oth _ x2 (by omega), if_pos h0]⟩
        go_wp2_with fail
        generalize w2.alloc (.cells #[.int .u8 x, .int .u32 0, .int .u32 0, .int .u32 0, .int .u32 0, .slice none 0 0, .slice none 0 0] 28) = W3 at *
        clear hg5
        refine (done_any ge BB l1 b1 W3 HE3.out).mono ?_
        rintro e w7 ⟨rfl, rfl⟩
        by_cases hd : b1 = true ∨ 0 < l1.length
        · rw [if_pos hd]
          have HDD := Aside0.mk (HRR.out hd)
          clear hd
          go_wp2_with (first | (refine wpList_store_row rfl 28 (.tmp 2) (.tmp 49) rfl B #[.int .u8 0, .int .u32 0, .int .u32 0, .int .u32 0, .int .u32 0, .slice none 0 0, .slice none 0 0] rfl rfl 28 _ (H3.out.get (i := 1) rfl) (msg_info _ _ _ _ _ _ _) rfl (by simp [Value.oneCell']) ?_))
          have H9 := Aside0.mk (H3.out.setRow (i := 1) rfl #[.int .u8 0, .int .u32 0, .int .u32 0, .int .u32 0, .int .u32 0, .slice none 0 0, .slice none 0 0])
          have HRQ : Aside0 (readR q = badR) := ⟨HDD.out⟩
          refine bodyPost_ret (results_ct rfl _ _ B _ #[.int .u8 0, .int .u32 0, .int .u32 0, .int .u32 0, .int .u32 0, .slice none 0 0, .slice none 0 0] (0, 0) _ rfl (H9.out.get (i := 1) rfl) Try.underlying28 rfl (msg_info _ _ _ _ _ _ _)) rfl ?_
          exact ⟨ReadM.of HRQ.out (MsC_zero _ 0 0 0), H9.out.bel⟩
        · rw [if_neg hd]
          have HDD := Aside0.mk (HRS.out hd)
          clear hd HRR HRS HQ
          go_wp2_with (first | (refine wpList_load_row_g 28 (.tmp 5) rfl g5 rfl rfl 28 _ (0, 0) _ (H3.out.get (i := 0) rfl) Try.underlying28 rfl (msg_info _ _ _ _ _ _ _) ?_))
          refine (mright_any x 0 0 0 0 [] [] _ _ (MsC_zero _ _ _ _) (OkM_zero HX.out (by omega) (by omega))).mono ?_
          rintro e w8 ⟨rfl, hb8⟩
          have H8 := Aside0.mk (H3.out.call hb8)
          clear hb8 H3 HE3
          by_cases h134 : x = 1 ∨ x = 3 ∨ x = 4
          · have HDE := HDD.out
            rw [if_pos h134] at HDE
            have HD2 := Aside0.mk HDE
            rw [show rightM x 0 0 0 0 [] [] = true by unfold rightM isZ; rw [if_pos h134]; simp]
            clear HDE HDD h134
            go_wp2_with (first | (refine wpList_load_row_g 28 (.tmp 5) rfl g5 rfl rfl 28 _ (0, 0) _ (H8.out.get (i := 0) rfl) Try.underlying28 rfl (msg_info _ _ _ _ _ _ _) ?_) | (refine wpList_store_row rfl 28 (.tmp 2) (.tmp 50) rfl B #[.int .u8 x, .int .u32 0, .int .u32 0, .int .u32 0, .int .u32 0, .slice none 0 0, .slice none 0 0] rfl rfl 28 _ (H8.out.get (i := 1) rfl) (msg_info _ _ _ _ _ _ _) rfl (by simp [Value.oneCell']) ?_))
            have H9 := Aside0.mk ((H8.out).setRow (i := 1) rfl #[.int .u8 x, .int .u32 0, .int .u32 0, .int .u32 0, .int .u32 0, .slice none 0 0, .slice none 0 0])
            have HRQ : Aside0 (readR q = ⟨true, x, 0, 0, 0, 0, [], []⟩) := ⟨HD2.out⟩
            refine bodyPost_ret (results_ct rfl _ _ B _ #[.int .u8 x, .int .u32 0, .int .u32 0, .int .u32 0, .int .u32 0, .slice none 0 0, .slice none 0 0] (0, 0) _ rfl (H9.out.get (i := 1) rfl) Try.underlying28 rfl (msg_info _ _ _ _ _ _ _)) rfl ?_
            exact ⟨ReadM.of HRQ.out (MsC_zero _ _ _ _), H9.out.bel⟩
          · have HDE := HDD.out
            rw [if_neg h134] at HDE
            have HD2 := Aside0.mk HDE
            rw [show rightM x 0 0 0 0 [] [] = false by unfold rightM; rw [if_neg h134, if_neg x2, if_neg (by omega)]]
            clear HDE HDD h134
            go_wp2_with (first | (refine wpList_store_row rfl 28 (.tmp 2) (.tmp 49) rfl B #[.int .u8 0, .int .u32 0, .int .u32 0, .int .u32 0, .int .u32 0, .slice none 0 0, .slice none 0 0] rfl rfl 28 _ (H8.out.get (i := 1) rfl) (msg_info _ _ _ _ _ _ _) rfl (by simp [Value.oneCell']) ?_))
            have H9 := Aside0.mk (H8.out.setRow (i := 1) rfl #[.int .u8 0, .int .u32 0, .int .u32 0, .int .u32 0, .int .u32 0, .slice none 0 0, .slice none 0 0])
            have HRQ : Aside0 (readR q = badR) := ⟨HD2.out⟩
            refine bodyPost_ret (results_ct rfl _ _ B _ #[.int .u8 0, .int .u32 0, .int .u32 0, .int .u32 0, .int .u32 0, .slice none 0 0, .slice none 0 0] (0, 0) _ rfl (H9.out.get (i := 1) rfl) Try.underlying28 rfl (msg_info _ _ _ _ _ _ _)) rfl ?_
            exact ⟨ReadM.of HRQ.out (MsC_zero _ 0 0 0), H9.out.bel⟩
end Go.Proofs.Yticpjidcgaaldaa

namespace Go.Proofs.Yticpjidcgaaldaa
open Go.RowKit Go.Proofs.YticpjidcgaaldaaW.PrintWords Go.Proofs.YticpjidcgaaldaaW.PrintLast Go.Proofs.YticpjidcgaaldaaW.PrintMore
set_option linter.unusedVariables false
set_option linter.unusedSimpArgs false

set_option maxRecDepth 100000 in
set_option maxHeartbeats 16000000 in
theorem mlike_any (k t m tk hs k' t' m' tk' hs' : Int) (P P' : List Int) (R R' : List S59) (v u : Value) (w00 : World) (hv : MsC w00 k t m tk hs P R v) (hu : MsC w00 k' t' m' tk' hs' P' R' u) (hP : Bytes P) (hP' : Bytes P') (hn : R.length ≤ 1000000) (hn' : R'.length ≤ 1000000) (β : Bool) (hβ : β = true ↔ k = k' ∧ t = t' ∧ m = m' ∧ tk = tk' ∧ hs = hs' ∧ P = P' ∧ R = R') :
    Calls Try.prog 20 #[v, u] w00 fun e w' => e = .returned (.bool β) ∧ Below w00.heap.size w00 w' := by
  obtain ⟨A, c, A2, c2, rfl, h2, h3, h4, h5⟩ := hv
  obtain ⟨A', c', A2', c2', rfl, k2, k3, k4, k5⟩ := hu
  have HBE := Aside0.mk hβ
  have HF : Aside0 (∀ z, Below w00.heap.size w00 z → DvC z tk hs P R (.agg #[.int .u32 tk, .int .u32 hs, .slice A P.length c, .slice A2 R.length c2]) ∧ DvC z tk' hs' P' R' (.agg #[.int .u32 tk', .int .u32 hs', .slice A' P'.length c', .slice A2' R'.length c2'])) := ⟨fun z hb => ⟨⟨A, c, A2, c2, rfl, h2, h3, Kd.C_below h4 hb, Kd.C_below h5 hb⟩, ⟨A', c', A2', c2', rfl, k2, k3, Kd.C_below k4 hb, Kd.C_below k5 hb⟩⟩⟩
  have KD := Aside0.mk (fun (γ : Bool) (hγ : γ = true ↔ tk = tk' ∧ hs = hs' ∧ P = P' ∧ R = R') (z : World) (hz : Below w00.heap.size w00 z) => dsameG_any tk hs tk' hs' P P' R R' _ _ z (HF.out z hz).1 (HF.out z hz).2 hP hP' hn hn' γ hγ)
  have H0 := Aside0.mk (((Hp.start w00).alloc (.cells #[.int .u8 k, .int .u32 t, .int .u32 m, .int .u32 tk, .int .u32 hs, .slice A P.length c, .slice A2 R.length c2] 28)).allocAt (.cells #[.int .u8 k', .int .u32 t', .int .u32 m', .int .u32 tk', .int .u32 hs', .slice A' P'.length c', .slice A2' R'.length c2'] 28) (w00.heap.size + 1) (by simp))
  clear h2 h3 h4 h5 k2 k3 k4 k5 hn hn' hP hP' hβ
  obtain ⟨n, hn⟩ : ∃ n, P.length = n := ⟨_, rfl⟩
  obtain ⟨p, hp⟩ : ∃ p, R.length = p := ⟨_, rfl⟩
  obtain ⟨n', hn'⟩ : ∃ n, P'.length = n := ⟨_, rfl⟩
  obtain ⟨p', hp'⟩ : ∃ p, R'.length = p := ⟨_, rfl⟩
  rw [hn, hp, hn', hp'] at KD HF H0
  rw [hn, hp, hn', hp']
  clear hn hp hn' hp'
  go_enter Try.func20, Try.ntmps20
  go_upto_region 1 with fail
  generalize (w00.alloc (.cells #[.int .u8 k, .int .u32 t, .int .u32 m, .int .u32 tk, .int .u32 hs, .slice A n c, .slice A2 p c2] 28)).alloc (.cells #[.int .u8 k', .int .u32 t', .int .u32 m', .int .u32 tk', .int .u32 hs', .slice A' n' c', .slice A2' p' c2'] 28) = W at *
  obtain ⟨gd, hgd⟩ : ∃ gd, w00.heap.size = gd := ⟨_, rfl⟩
  rw [hgd] at H0 HF KD
  rw [hgd]
  have HGD := Aside0.mk hgd
  clear hgd
  have a0 := blk_cell (H0.out.get (i := 1) rfl) 0
  have a1 := blk_cell (H0.out.get (i := 1) rfl) 1
  have a2 := blk_cell (H0.out.get (i := 1) rfl) 2
  have a3 := blk_cell (H0.out.get (i := 1) rfl) 3
  have a4 := blk_cell (H0.out.get (i := 1) rfl) 4
  have a5 := blk_cell (H0.out.get (i := 1) rfl) 5
  have a6 := blk_cell (H0.out.get (i := 1) rfl) 6
  have b0 := blk_cell (H0.out.get (i := 0) rfl) 0
  have b1 := blk_cell (H0.out.get (i := 0) rfl) 1
  have b2 := blk_cell (H0.out.get (i := 0) rfl) 2
  have b3 := blk_cell (H0.out.get (i := 0) rfl) 3
  have b4 := blk_cell (H0.out.get (i := 0) rfl) 4
  have b5 := blk_cell (H0.out.get (i := 0) rfl) 5
  have b6 := blk_cell (H0.out.get (i := 0) rfl) 6
  by_cases e0 : k = k'
  · subst e0
    by_cases e1 : t = t'
    · subst e1
      by_cases e2 : m = m'
      · subst e2
        go_wp2_with fail
        refine (KD.out β ⟨fun h => (HBE.out.1 h).2.2.2, fun h => HBE.out.2 (by exact ⟨trivial, trivial, trivial, h⟩)⟩ W H0.out.bel).mono ?_
        rintro e w1 ⟨rfl, hb1⟩
        have H1 := Aside0.mk (H0.out.call hb1)
        clear a0 a1 a2 a3 a4 a5 a6 b0 b1 b2 b3 b4 b5 b6 hb1 H0
        go_wp2_with fail
        go_ret
        rw [HGD.out]
        exact ⟨rfl, H1.out.bel⟩
      · have HT : Aside0 (β = false) := ⟨by
          rw [Bool.eq_false_iff]
          intro e
          exact e2 (HBE.out.1 e).2.2.1⟩
        go_wp2_with fail
        go_ret
        rw [HGD.out, HT.out]
        exact ⟨rfl, H0.out.bel⟩
    · have HT : Aside0 (β = false) := ⟨by
        rw [Bool.eq_false_iff]
        intro e
        exact e1 (HBE.out.1 e).2.1⟩
      go_wp2_with fail
      go_ret
      rw [HGD.out, HT.out]
      exact ⟨rfl, H0.out.bel⟩
  · have HT : Aside0 (β = false) := ⟨by
      rw [Bool.eq_false_iff]
      intro e
      exact e0 (HBE.out.1 e).1⟩
    go_wp2_with fail
    go_ret
    rw [HGD.out, HT.out]
    exact ⟨rfl, H0.out.bel⟩
theorem Kd.C_any0 {α : Type} {d : Kd α} {w : World} {A : Option Addr} (h : d.C w A 0 []) (z : World) : d.C z A 0 [] := ⟨rfl, by simp, fun hn => absurd hn (by simp)⟩
theorem ex_bytes : mBytes 2 5 2 0 0 [] [] = [2, 5, 0, 0, 0, 2, 0, 0, 0] := by decide
theorem ex_read : readR [2, 5, 0, 0, 0, 2, 0, 0, 0] = ⟨true, 2, 5, 2, 0, 0, [], []⟩ := by rw [readR_two]; rfl
theorem ex_ok : OkM 2 5 2 0 0 [] [] := OkM_zero (by omega) (by omega) (by omega)
set_option maxRecDepth 100000 in
set_option maxHeartbeats 16000000 in
theorem awake11_any (w00 : World) : Calls Try.prog 10 #[] w00 fun e w' => e = .returned (.bool true) ∧ Below w00.heap.size w00 w' := by
  obtain ⟨B, hB⟩ : ∃ B, w00.heap.size = B := ⟨_, rfl⟩
  have H0 := Aside0.mk ((Hp.start w00).allocAt (.cells #[.int .u8 2, .int .u32 5, .int .u32 2, .int .u32 0, .int .u32 0, .slice none 0 0, .slice none 0 0] 28) B hB)
  rw [hB] at H0
  rw [hB]
  have HB := Aside0.mk hB
  have hz7 := zero_msg
  go_enter Try.func10, Try.ntmps10
  go_wp2_with (first | (refine wpList_load_row_g 28 (.tmp 1) rfl B rfl rfl 28 _ (0, 0) _ (H0.out.get (i := 0) rfl) Try.underlying28 rfl (msg_info _ _ _ _ _ _ _) ?_))
  refine (mbytes_any 2 5 2 0 0 [] [] _ _ (MsC_zero _ _ _ _) ex_ok).mono ?_
  rintro e w1 ⟨v1, rfl, hv1, hb1⟩
  rw [ex_bytes] at hv1
  have H1 := Aside0.mk (H0.out.row hb1 hv1)
  obtain ⟨A1, c1, rfl, hc1, _⟩ := Kd.R_reads hv1
  rw [show ([2, 5, 0, 0, 0, 2, 0, 0, 0] : List Int).length = 9 from rfl] at H1 hc1
  rw [show ([2, 5, 0, 0, 0, 2, 0, 0, 0] : List Int).length = 9 from rfl]
  clear hv1 hb1 H0
  go_wp2_with fail
  refine (mread_any A1 9 c1 [2, 5, 0, 0, 0, 2, 0, 0, 0] _ (Ru_C (H1.out.fact (i := 0) rfl)).2.2 hc1 (by omega) (by intro b hb; simp only [List.mem_cons, List.not_mem_nil, or_false] at hb; omega)).mono ?_
  rintro e w2 ⟨⟨v2, rfl, hv2⟩, hb2⟩
  rw [ex_read] at hv2 ⊢
  simp only at hv2
  obtain ⟨A2, c2, A3, c3, rfl, h2, h3, h4, h5⟩ := hv2
  obtain ⟨g2, hg2⟩ : ∃ g2, w2.heap.size = g2 := ⟨_, rfl⟩
  have H2 := Aside0.mk ((H1.out.call hb2).allocAt (.cells #[.int .u8 2, .int .u32 5, .int .u32 2, .int .u32 0, .int .u32 0, .slice A2 0 c2, .slice A3 0 c3] 28) g2 hg2)
  have HV : Aside0 (∀ z, MsC z 2 5 2 0 0 [] [] (.agg #[.int .u8 2, .int .u32 5, .int .u32 2, .int .u32 0, .int .u32 0, .slice A2 0 c2, .slice A3 0 c3])) := ⟨fun z => ⟨A2, c2, A3, c3, rfl, Nat.zero_le _, Nat.zero_le _, Kd.C_any0 h4 z, Kd.C_any0 h5 z⟩⟩
  clear hb2 h2 h3 h4 h5 H1 hc1
  rw [show ([] : List Int).length = 0 from rfl, show ([] : List S59).length = 0 from rfl]
  go_wp2_with (first | (refine wpList_load_row_g 28 (.tmp 1) rfl B rfl rfl 28 _ (0, 0) _ (H2.out.get (i := 1) rfl) Try.underlying28 rfl (msg_info _ _ _ _ _ _ _) ?_))
  generalize w2.alloc (.cells #[.int .u8 2, .int .u32 5, .int .u32 2, .int .u32 0, .int .u32 0, .slice A2 0 c2, .slice A3 0 c3] 28) = W at *
  clear hg2
  refine (mbytes_any 2 5 2 0 0 [] [] _ _ (MsC_zero _ _ _ _) ex_ok).mono ?_
  rintro e w3 ⟨v3, rfl, hv3, hb3⟩
  rw [ex_bytes] at hv3
  have H3 := Aside0.mk (H2.out.call hb3)
  obtain ⟨A4, c4, rfl, hc4, _⟩ := Kd.R_reads hv3
  rw [show ([2, 5, 0, 0, 0, 2, 0, 0, 0] : List Int).length = 9 from rfl]
  clear hv3 hb3 H2 hc4
  go_wp2_with (first | (refine wpList_load_row_g 28 (.tmp 1) rfl B rfl rfl 28 _ (0, 0) _ (H3.out.get (i := 1) rfl) Try.underlying28 rfl (msg_info _ _ _ _ _ _ _) ?_) | (refine wpList_load_row_g 28 (.tmp 2) rfl g2 rfl rfl 28 _ (0, 0) _ (H3.out.get (i := 0) rfl) Try.underlying28 rfl (msg_info _ _ _ _ _ _ _) ?_))
  refine (mlike_any 2 5 2 0 0 2 5 2 0 0 [] [] [] [] _ _ _ (HV.out _) (MsC_zero _ _ _ _) Bytes.nil Bytes.nil (by simp) (by simp) true (by simp)).mono ?_
  rintro e w4 ⟨rfl, hb4⟩
  have H4 := Aside0.mk (H3.out.call hb4)
  clear hb4 H3
  go_wp2_with fail
  go_ret
  exact ⟨rfl, H4.out.bel⟩
end Go.Proofs.Yticpjidcgaaldaa

namespace Go.Proofs.Yticpjidcgaaldaa
open Go.RowKit Go.Proofs.YticpjidcgaaldaaW.PrintWords Go.Proofs.YticpjidcgaaldaaW.PrintLast Go.Proofs.YticpjidcgaaldaaW.PrintMore
set_option linter.unusedVariables false
set_option linter.unusedSimpArgs false

/-- The bytes of the messages of this law: how many, and the first. -/
theorem kind_one {k : Int} (h : k = 1 ∨ k = 3 ∨ k = 4) : mBytes k 0 0 0 0 [] [] = [k] := by
  unfold mBytes
  rw [show rightM k 0 0 0 0 [] [] = true by unfold rightM isZ; rw [if_pos h]; simp, if_pos rfl]
  unfold mSay
  rw [if_neg (by omega), if_neg (by omega)]
theorem kind_two (t m : Int) : mBytes 2 t m 0 0 [] [] = [2] ++ lowN t.toNat 4 ++ lowN m.toNat 4 := by
  unfold mBytes
  rw [show rightM 2 t m 0 0 [] [] = true by unfold rightM isZ; simp, if_pos rfl]
  unfold mSay
  rw [if_pos rfl]
theorem kind_five {k : Int} (h : k = 5 ∨ k = 6) (t : Int) : mBytes k t 0 t 0 [] [] = [k] ++ dBytes t.toNat 0 [] [] := by
  unfold mBytes
  rw [show rightM k t 0 t 0 [] [] = true by unfold rightM; rw [if_neg (by omega), if_neg (by omega), if_pos h]; simp [rightB, risB], if_pos rfl]
  unfold mSay
  rw [if_neg (by omega), if_pos h]
  unfold pbD
  rw [if_pos (by simp [rightB, risB])]; rfl
theorem kind_none {k : Int} (h : ¬ (k = 1 ∨ k = 3 ∨ k = 4)) (h2 : ¬ k = 2) (h5 : ¬ (k = 5 ∨ k = 6)) : mBytes k 0 0 0 0 [] [] = [] := by
  unfold mBytes
  rw [if_neg (by unfold rightM; rw [if_neg h, if_neg h2, if_neg h5]; decide)]

theorem MsC_zero' (w : World) (k t m tk hs : Int) : MsC w k t m tk hs [] [] (.agg #[.int .u8 k, .int .u32 t, .int .u32 m, .int .u32 tk, .int .u32 hs, .slice none 0 0, .slice none 0 0]) :=
  ⟨none, 0, none, 0, rfl, Nat.le_refl _, Nat.le_refl _, Kd.C_nil _ _, Kd.C_nil _ _⟩
set_option maxRecDepth 100000 in
set_option maxHeartbeats 16000000 in
theorem kinds_walk (t m k : Int) (w00 : World) (hT : 0 ≤ t ∧ t ≤ 4294967295) (hM : 0 ≤ m ∧ m ≤ 4294967295) (hK : 0 ≤ k ∧ k ≤ 255) :
    Calls Try.prog 4 #[.int .u32 t, .int .u32 m, .int .u8 k] w00 fun e w' => e = .returned (.bool true) ∧ Below w00.heap.size w00 w' := by
  have HTM := Aside0.mk (And.intro hT (And.intro hM hK))
  clear hT hM hK
  obtain ⟨B, hB⟩ : ∃ B, w00.heap.size = B := ⟨_, rfl⟩
  have H00 := Aside0.mk (Hp.start w00)
  rw [hB] at H00
  rw [hB]
  have HB := Aside0.mk hB
  have hz7 := zero_msg
  clear hB
  go_enter Try.func4, Try.ntmps4
  go_wp2_with fail
  refine (awake11_any w00).mono ?_
  rintro e w1 ⟨rfl, hb1⟩
  rw [HB.out] at hb1
  have H1 := Aside0.mk (H00.out.call (HB.out.symm ▸ hb1))
  clear hb1 H00
  obtain ⟨g7, hg7⟩ : ∃ g7, w1.heap.size = g7 := ⟨_, rfl⟩
  by_cases h1 : k = 1
  · subst h1
    have H3 := Aside0.mk (H1.out.allocAt (.cells #[.int .u8 1, .int .u32 0, .int .u32 0, .int .u32 0, .int .u32 0, .slice none 0 0, .slice none 0 0] 28) g7 hg7)
    clear H1
    obtain ⟨pb, hpb⟩ : ∃ pb, mBytes 1 0 0 0 0 [] [] = pb := ⟨_, rfl⟩
    have HPB := Aside0.mk hpb
    rw [kind_one (by omega)] at hpb
    have HLN : Aside0 (pb.length = 1) := ⟨by rw [← hpb]; rfl⟩
    have HFS : Aside0 (pb[0]'(by rw [HLN.out]; decide) = 1) := ⟨by subst hpb; rfl⟩
    clear hpb
    go_wp2_with (first | (refine wpList_load_row_g 28 (.tmp 7) rfl g7 rfl rfl 28 _ (0, 0) _ (H3.out.get (i := 0) rfl) Try.underlying28 rfl (msg_info _ _ _ _ _ _ _) ?_))
    refine (mbytes_any 1 0 0 0 0 [] [] _ _ (MsC_zero' _ _ _ _ _ _) (OkM_zero (by omega) (by omega) (by omega))).mono ?_
    rintro e w4 ⟨v4, rfl, hv4, hb4⟩
    rw [HPB.out] at hv4
    have H4 := Aside0.mk (H3.out.row hb4 hv4)
    obtain ⟨A4, c4, rfl, hc4, hC4⟩ := Kd.R_reads hv4
    rw [HLN.out] at H4 hc4
    rw [HLN.out]
    obtain ⟨a4, hA4, cc4⟩ := int_at hC4 0 (by rw [HLN.out]; decide)
    rw [HFS.out] at cc4
    subst hA4
    rw [add0'] at cc4
    clear hv4 hb4 hc4 hC4 H3
    go_wp2_with (first | (refine wpList_load_row_g 28 (.tmp 7) rfl g7 rfl rfl 28 _ (0, 0) _ (H4.out.get (i := 0) rfl) Try.underlying28 rfl (msg_info _ _ _ _ _ _ _) ?_))
    refine (msize_any 1 0 0 0 0 [] [] _ _ (MsC_zero' _ _ _ _ _ _) (OkM_zero (by omega) (by omega) (by omega))).mono ?_
    rintro e w5 ⟨rfl, hb5⟩
    rw [HPB.out, HLN.out]
    have H5 := Aside0.mk (H4.out.call hb5)
    clear hb5 H4
    go_wp2_with fail
    go_ret
    exact ⟨rfl, H5.out.bel⟩
  · skip
    by_cases h3 : k = 3
    · subst h3
      have H3 := Aside0.mk (H1.out.allocAt (.cells #[.int .u8 3, .int .u32 0, .int .u32 0, .int .u32 0, .int .u32 0, .slice none 0 0, .slice none 0 0] 28) g7 hg7)
      clear H1
      obtain ⟨pb, hpb⟩ : ∃ pb, mBytes 3 0 0 0 0 [] [] = pb := ⟨_, rfl⟩
      have HPB := Aside0.mk hpb
      rw [kind_one (by omega)] at hpb
      have HLN : Aside0 (pb.length = 1) := ⟨by rw [← hpb]; rfl⟩
      have HFS : Aside0 (pb[0]'(by rw [HLN.out]; decide) = 3) := ⟨by subst hpb; rfl⟩
      clear hpb
      go_wp2_with (first | (refine wpList_load_row_g 28 (.tmp 7) rfl g7 rfl rfl 28 _ (0, 0) _ (H3.out.get (i := 0) rfl) Try.underlying28 rfl (msg_info _ _ _ _ _ _ _) ?_))
      refine (mbytes_any 3 0 0 0 0 [] [] _ _ (MsC_zero' _ _ _ _ _ _) (OkM_zero (by omega) (by omega) (by omega))).mono ?_
      rintro e w4 ⟨v4, rfl, hv4, hb4⟩
      rw [HPB.out] at hv4
      have H4 := Aside0.mk (H3.out.row hb4 hv4)
      obtain ⟨A4, c4, rfl, hc4, hC4⟩ := Kd.R_reads hv4
      rw [HLN.out] at H4 hc4
      rw [HLN.out]
      obtain ⟨a4, hA4, cc4⟩ := int_at hC4 0 (by rw [HLN.out]; decide)
      rw [HFS.out] at cc4
      subst hA4
      rw [add0'] at cc4
      clear hv4 hb4 hc4 hC4 H3
      go_wp2_with (first | (refine wpList_load_row_g 28 (.tmp 7) rfl g7 rfl rfl 28 _ (0, 0) _ (H4.out.get (i := 0) rfl) Try.underlying28 rfl (msg_info _ _ _ _ _ _ _) ?_))
      refine (msize_any 3 0 0 0 0 [] [] _ _ (MsC_zero' _ _ _ _ _ _) (OkM_zero (by omega) (by omega) (by omega))).mono ?_
      rintro e w5 ⟨rfl, hb5⟩
      rw [HPB.out, HLN.out]
      have H5 := Aside0.mk (H4.out.call hb5)
      clear hb5 H4
      go_wp2_with fail
      go_ret
      exact ⟨rfl, H5.out.bel⟩
    · skip
      by_cases h4 : k = 4
      · subst h4
        have H3 := Aside0.mk (H1.out.allocAt (.cells #[.int .u8 4, .int .u32 0, .int .u32 0, .int .u32 0, .int .u32 0, .slice none 0 0, .slice none 0 0] 28) g7 hg7)
        clear H1
        obtain ⟨pb, hpb⟩ : ∃ pb, mBytes 4 0 0 0 0 [] [] = pb := ⟨_, rfl⟩
        have HPB := Aside0.mk hpb
        rw [kind_one (by omega)] at hpb
        have HLN : Aside0 (pb.length = 1) := ⟨by rw [← hpb]; rfl⟩
        have HFS : Aside0 (pb[0]'(by rw [HLN.out]; decide) = 4) := ⟨by subst hpb; rfl⟩
        clear hpb
        go_wp2_with (first | (refine wpList_load_row_g 28 (.tmp 7) rfl g7 rfl rfl 28 _ (0, 0) _ (H3.out.get (i := 0) rfl) Try.underlying28 rfl (msg_info _ _ _ _ _ _ _) ?_))
        refine (mbytes_any 4 0 0 0 0 [] [] _ _ (MsC_zero' _ _ _ _ _ _) (OkM_zero (by omega) (by omega) (by omega))).mono ?_
        rintro e w4 ⟨v4, rfl, hv4, hb4⟩
        rw [HPB.out] at hv4
        have H4 := Aside0.mk (H3.out.row hb4 hv4)
        obtain ⟨A4, c4, rfl, hc4, hC4⟩ := Kd.R_reads hv4
        rw [HLN.out] at H4 hc4
        rw [HLN.out]
        obtain ⟨a4, hA4, cc4⟩ := int_at hC4 0 (by rw [HLN.out]; decide)
        rw [HFS.out] at cc4
        subst hA4
        rw [add0'] at cc4
        clear hv4 hb4 hc4 hC4 H3
        go_wp2_with (first | (refine wpList_load_row_g 28 (.tmp 7) rfl g7 rfl rfl 28 _ (0, 0) _ (H4.out.get (i := 0) rfl) Try.underlying28 rfl (msg_info _ _ _ _ _ _ _) ?_))
        refine (msize_any 4 0 0 0 0 [] [] _ _ (MsC_zero' _ _ _ _ _ _) (OkM_zero (by omega) (by omega) (by omega))).mono ?_
        rintro e w5 ⟨rfl, hb5⟩
        rw [HPB.out, HLN.out]
        have H5 := Aside0.mk (H4.out.call hb5)
        clear hb5 H4
        go_wp2_with fail
        go_ret
        exact ⟨rfl, H5.out.bel⟩
      · skip
        by_cases h2 : k = 2
        · subst h2
          have H3 := Aside0.mk (H1.out.allocAt (.cells #[.int .u8 2, .int .u32 t, .int .u32 m, .int .u32 0, .int .u32 0, .slice none 0 0, .slice none 0 0] 28) g7 hg7)
          clear H1
          obtain ⟨pb, hpb⟩ : ∃ pb, mBytes 2 t m 0 0 [] [] = pb := ⟨_, rfl⟩
          have HPB := Aside0.mk hpb
          rw [kind_two] at hpb
          have HLN : Aside0 (pb.length = 9) := ⟨by rw [← hpb]; simp [lowN_length]⟩
          have HFS : Aside0 (pb[0]'(by rw [HLN.out]; decide) = 2) := ⟨by subst hpb; rfl⟩
          clear hpb
          go_wp2_with (first | (refine wpList_load_row_g 28 (.tmp 7) rfl g7 rfl rfl 28 _ (0, 0) _ (H3.out.get (i := 0) rfl) Try.underlying28 rfl (msg_info _ _ _ _ _ _ _) ?_))
          refine (mbytes_any 2 t m 0 0 [] [] _ _ (MsC_zero' _ _ _ _ _ _) (OkM_zero (by omega) (by have := HTM.out.1; omega) (by have := HTM.out.2.1; omega))).mono ?_
          rintro e w4 ⟨v4, rfl, hv4, hb4⟩
          rw [HPB.out] at hv4
          have H4 := Aside0.mk (H3.out.row hb4 hv4)
          obtain ⟨A4, c4, rfl, hc4, hC4⟩ := Kd.R_reads hv4
          rw [HLN.out] at H4 hc4
          rw [HLN.out]
          obtain ⟨a4, hA4, cc4⟩ := int_at hC4 0 (by rw [HLN.out]; decide)
          rw [HFS.out] at cc4
          subst hA4
          rw [add0'] at cc4
          clear hv4 hb4 hc4 hC4 H3
          go_wp2_with (first | (refine wpList_load_row_g 28 (.tmp 7) rfl g7 rfl rfl 28 _ (0, 0) _ (H4.out.get (i := 0) rfl) Try.underlying28 rfl (msg_info _ _ _ _ _ _ _) ?_))
          refine (msize_any 2 t m 0 0 [] [] _ _ (MsC_zero' _ _ _ _ _ _) (OkM_zero (by omega) (by have := HTM.out.1; omega) (by have := HTM.out.2.1; omega))).mono ?_
          rintro e w5 ⟨rfl, hb5⟩
          rw [HPB.out, HLN.out]
          have H5 := Aside0.mk (H4.out.call hb5)
          clear hb5 H4
          go_wp2_with fail
          go_ret
          exact ⟨rfl, H5.out.bel⟩
        · skip
          by_cases h5 : k = 5
          · subst h5
            have H3 := Aside0.mk (H1.out.allocAt (.cells #[.int .u8 5, .int .u32 t, .int .u32 0, .int .u32 t, .int .u32 0, .slice none 0 0, .slice none 0 0] 28) g7 hg7)
            clear H1
            obtain ⟨pb, hpb⟩ : ∃ pb, mBytes 5 t 0 t 0 [] [] = pb := ⟨_, rfl⟩
            have HPB := Aside0.mk hpb
            rw [kind_five (by omega) t] at hpb
            have HLN : Aside0 (pb.length = 10) := ⟨by rw [← hpb]; simp [dBytes, dHead, dRows, lowN_length]⟩
            have HFS : Aside0 (pb[0]'(by rw [HLN.out]; decide) = 5) := ⟨by subst hpb; rfl⟩
            clear hpb
            go_wp2_with (first | (refine wpList_load_row_g 28 (.tmp 7) rfl g7 rfl rfl 28 _ (0, 0) _ (H3.out.get (i := 0) rfl) Try.underlying28 rfl (msg_info _ _ _ _ _ _ _) ?_))
            refine (mbytes_any 5 t 0 t 0 [] [] _ _ (MsC_zero' _ _ _ _ _ _) ⟨by omega, by have := HTM.out.1; omega, by omega, by have := HTM.out.1; omega, by omega, Bytes.nil, (fun y hy => by cases hy), by simp, by simp⟩).mono ?_
            rintro e w4 ⟨v4, rfl, hv4, hb4⟩
            rw [HPB.out] at hv4
            have H4 := Aside0.mk (H3.out.row hb4 hv4)
            obtain ⟨A4, c4, rfl, hc4, hC4⟩ := Kd.R_reads hv4
            rw [HLN.out] at H4 hc4
            rw [HLN.out]
            obtain ⟨a4, hA4, cc4⟩ := int_at hC4 0 (by rw [HLN.out]; decide)
            rw [HFS.out] at cc4
            subst hA4
            rw [add0'] at cc4
            clear hv4 hb4 hc4 hC4 H3
            go_wp2_with (first | (refine wpList_load_row_g 28 (.tmp 7) rfl g7 rfl rfl 28 _ (0, 0) _ (H4.out.get (i := 0) rfl) Try.underlying28 rfl (msg_info _ _ _ _ _ _ _) ?_))
            refine (msize_any 5 t 0 t 0 [] [] _ _ (MsC_zero' _ _ _ _ _ _) ⟨by omega, by have := HTM.out.1; omega, by omega, by have := HTM.out.1; omega, by omega, Bytes.nil, (fun y hy => by cases hy), by simp, by simp⟩).mono ?_
            rintro e w5 ⟨rfl, hb5⟩
            rw [HPB.out, HLN.out]
            have H5 := Aside0.mk (H4.out.call hb5)
            clear hb5 H4
            go_wp2_with fail
            go_ret
            exact ⟨rfl, H5.out.bel⟩
          · skip
            by_cases h6 : k = 6
            · subst h6
              have H3 := Aside0.mk (H1.out.allocAt (.cells #[.int .u8 6, .int .u32 t, .int .u32 0, .int .u32 t, .int .u32 0, .slice none 0 0, .slice none 0 0] 28) g7 hg7)
              clear H1
              obtain ⟨pb, hpb⟩ : ∃ pb, mBytes 6 t 0 t 0 [] [] = pb := ⟨_, rfl⟩
              have HPB := Aside0.mk hpb
              rw [kind_five (by omega) t] at hpb
              have HLN : Aside0 (pb.length = 10) := ⟨by rw [← hpb]; simp [dBytes, dHead, dRows, lowN_length]⟩
              have HFS : Aside0 (pb[0]'(by rw [HLN.out]; decide) = 6) := ⟨by subst hpb; rfl⟩
              clear hpb
              go_wp2_with (first | (refine wpList_load_row_g 28 (.tmp 7) rfl g7 rfl rfl 28 _ (0, 0) _ (H3.out.get (i := 0) rfl) Try.underlying28 rfl (msg_info _ _ _ _ _ _ _) ?_))
              refine (mbytes_any 6 t 0 t 0 [] [] _ _ (MsC_zero' _ _ _ _ _ _) ⟨by omega, by have := HTM.out.1; omega, by omega, by have := HTM.out.1; omega, by omega, Bytes.nil, (fun y hy => by cases hy), by simp, by simp⟩).mono ?_
              rintro e w4 ⟨v4, rfl, hv4, hb4⟩
              rw [HPB.out] at hv4
              have H4 := Aside0.mk (H3.out.row hb4 hv4)
              obtain ⟨A4, c4, rfl, hc4, hC4⟩ := Kd.R_reads hv4
              rw [HLN.out] at H4 hc4
              rw [HLN.out]
              obtain ⟨a4, hA4, cc4⟩ := int_at hC4 0 (by rw [HLN.out]; decide)
              rw [HFS.out] at cc4
              subst hA4
              rw [add0'] at cc4
              clear hv4 hb4 hc4 hC4 H3
              go_wp2_with (first | (refine wpList_load_row_g 28 (.tmp 7) rfl g7 rfl rfl 28 _ (0, 0) _ (H4.out.get (i := 0) rfl) Try.underlying28 rfl (msg_info _ _ _ _ _ _ _) ?_))
              refine (msize_any 6 t 0 t 0 [] [] _ _ (MsC_zero' _ _ _ _ _ _) ⟨by omega, by have := HTM.out.1; omega, by omega, by have := HTM.out.1; omega, by omega, Bytes.nil, (fun y hy => by cases hy), by simp, by simp⟩).mono ?_
              rintro e w5 ⟨rfl, hb5⟩
              rw [HPB.out, HLN.out]
              have H5 := Aside0.mk (H4.out.call hb5)
              clear hb5 H4
              go_wp2_with fail
              go_ret
              exact ⟨rfl, H5.out.bel⟩
            · skip
              have H3 := Aside0.mk (H1.out.allocAt (.cells #[.int .u8 k, .int .u32 0, .int .u32 0, .int .u32 0, .int .u32 0, .slice none 0 0, .slice none 0 0] 28) g7 hg7)
              clear H1
              obtain ⟨pb, hpb⟩ : ∃ pb, mBytes k 0 0 0 0 [] [] = pb := ⟨_, rfl⟩
              have HPB := Aside0.mk hpb
              rw [kind_none (by omega) h2 (by omega)] at hpb
              have HLN : Aside0 (pb.length = 0) := ⟨by rw [← hpb]; rfl⟩
              clear hpb
              go_wp2_with (first | (refine wpList_load_row_g 28 (.tmp 7) rfl g7 rfl rfl 28 _ (0, 0) _ (H3.out.get (i := 0) rfl) Try.underlying28 rfl (msg_info _ _ _ _ _ _ _) ?_))
              refine (mbytes_any k 0 0 0 0 [] [] _ _ (MsC_zero' _ _ _ _ _ _) (OkM_zero (by have := HTM.out.2.2; omega) (by omega) (by omega))).mono ?_
              rintro e w4 ⟨v4, rfl, hv4, hb4⟩
              rw [HPB.out] at hv4
              have H4 := Aside0.mk (H3.out.row hb4 hv4)
              obtain ⟨A4, c4, rfl, hc4, hC4⟩ := Kd.R_reads hv4
              rw [HLN.out] at H4 hc4
              rw [HLN.out]
              clear hv4 hb4 hc4 hC4 H3
              go_wp2_with (first | (refine wpList_load_row_g 28 (.tmp 7) rfl g7 rfl rfl 28 _ (0, 0) _ (H4.out.get (i := 0) rfl) Try.underlying28 rfl (msg_info _ _ _ _ _ _ _) ?_))
              refine (msize_any k 0 0 0 0 [] [] _ _ (MsC_zero' _ _ _ _ _ _) (OkM_zero (by have := HTM.out.2.2; omega) (by omega) (by omega))).mono ?_
              rintro e w5 ⟨rfl, hb5⟩
              rw [HPB.out, HLN.out]
              have H5 := Aside0.mk (H4.out.call hb5)
              clear hb5 H4
              go_wp2_with fail
              go_ret
              exact ⟨rfl, H5.out.bel⟩
end Go.Proofs.Yticpjidcgaaldaa
