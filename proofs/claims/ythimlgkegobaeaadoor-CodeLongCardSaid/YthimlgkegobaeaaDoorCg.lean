/- The laws' own functions and the document's Check, in plain words; the document's example. -/
import Derived.Test.YthimlgkegobaeaaDoorCf
import Derived.Test.YthimlgkegobaeaaDoorR9
namespace Go.Proofs.YthimlgkegobaeaaDoor
open Go.RowKit Go.Shelf Go.Proofs.YthimlgkegobaeaaDoorW.PrintWords Go.Proofs.YthimlgkegobaeaaDoorW.PrintLast Go.Proofs.YthimlgkegobaeaaDoorW.PrintMore
set_option linter.unusedVariables false
set_option linter.unusedSimpArgs false

def toX (x : S25) : S29 := ⟨x.f0, x.f1, x.f2, x.f3, x.f4, x.f5⟩
theorem wsuccC (i : Nat) (h : i < 4611686018427387904) : wrap64 ((i : Int) + 1) = ((i + 1 : Nat) : Int) := by unfold wrap64; omega
theorem rdX {l : List S25} {i : Nat} (h : i < l.length) : rd_T25 l (i : Int) = l[i] := by
  have := rd_some h
  rw [List.getElem?_eq_getElem h] at this
  exact (Option.some.inj this).symm
theorem rdY {l : List S25} {i : Nat} (h : i < l.length) : rd_T29 (l.map toX) (i : Int) = toX l[i] := by
  unfold rd_T29
  rw [Int.toNat_natCast, List.getD, List.getElem?_map, List.getElem?_eq_getElem h]; rfl
theorem own_l0 (l : List S25) (hl : l.length < 1000000) : ∀ (k i : Nat), i ≤ l.length → l.length - i < k →
    hoodwinklaw08_own.l0 k ((l.take i).map toX) l (l.length : Int) (i : Int) = some (l.map toX)
  | 0, _, _, h => by omega
  | k + 1, i, hi, hk => by
    rw [hoodwinklaw08_own.l0]
    by_cases h : i < l.length
    · rw [if_pos (by omega), if_pos (by omega), if_pos (by omega), if_pos (by simp; omega), wsuccC i (by omega), rdX h]
      have e : (l.take i).map toX ++ [(⟨l[i].f0, l[i].f1, l[i].f2, l[i].f3, l[i].f4, l[i].f5⟩ : S29)] = (l.take (i + 1)).map toX := by
        rw [take_next l i h, List.map_append]; rfl
      rw [e]
      exact own_l0 l hl k (i + 1) (by omega) (by omega)
    · rw [if_neg (by omega), List.take_of_length_le (by omega)]
theorem own_any (A : Option Addr) (c : Nat) (l : List S25) (w : World) (hr : k25.C w A l.length l) (hc : l.length ≤ c) (hl : l.length < 1000000) :
    Calls Tryd.prog 12 #[.slice A l.length c] w fun e w' => ∃ A' c', e = .returned (.slice A' l.length c') ∧ l.length ≤ c' ∧ k29.C w' A' l.length (l.map toX) ∧ Below w.heap.size w w' := by
  have h := own_l0 l hl (l.length + 1) 0 (by omega) (by omega)
  refine (hoodwinklaw08_own.calls (l.length + 1) A c l _ w hr hc h).mono ?_
  rintro e w' ⟨v, rfl, hR, hb⟩
  obtain ⟨A', c', rfl, hle, hC⟩ := Kd.R_reads hR
  simp only [List.length_map] at hle hC ⊢
  exact ⟨A', c', rfl, hle, hC, hb⟩
theorem few_any (A : Option Addr) (c : Nat) (l : List S25) (w : World) (hr : k25.C w A l.length l) (hc : l.length ≤ c) :
    Calls Tryd.prog 17 #[.slice A l.length c] w fun e w' => ∃ A c, e = .returned (.slice A (l.take 110).length c) ∧ (l.take 110).length ≤ c ∧ k25.C w' A (l.take 110).length (l.take 110) ∧ Below w.heap.size w w' := by
  have h : hoodwinklaw08_few.f l = some (l.take 110) := by
    unfold hoodwinklaw08_few.f mn
    by_cases e : (110 : Int) < l.length
    · rw [if_pos e, Option.bind_some, if_pos (by omega), if_pos (by omega), Option.bind_some, if_pos (by simp; omega)]; simp
    · rw [if_neg e, Option.bind_some, if_pos (by omega), if_pos (by omega), Option.bind_some, if_pos (by simp; omega), Int.toNat_natCast, List.take_of_length_le (Nat.le_refl _), List.take_of_length_le (by omega)]; rfl
  refine (hoodwinklaw08_few.calls A c l _ w hr hc h).mono ?_
  rintro e w' ⟨v, rfl, hR, hb⟩
  obtain ⟨A, c, rfl, hle, hC⟩ := Kd.R_reads hR
  exact ⟨A, c, rfl, hle, hC, hb⟩
/-! ### The document's Check -/
theorem right08_k (x : S25) (hx : OkI x) (size cells players : Int) : ∀ k, hoodwinkref08_Right.f (k + 40) x.f0 x.f1 x.f2 x.f3 x.f4 x.f5 size cells players = some (rightX x size cells players)
  | 0 => by
    obtain ⟨h0, h1, h2, h3, h4, h5⟩ := hx
    have h := right08_f x.f0.toNat x.f1.toNat x.f2.toNat x.f3.toNat x.f4 x.f5.toNat size cells players (by omega) (by omega) h4
    rw [nat_of h0.1, nat_of h1.1, nat_of h2.1, nat_of h3.1, nat_of h5.1] at h
    exact h
  | k + 1 => hoodwinkref08_Right.mono _ _ _ _ _ _ _ _ _ _ _ (right08_k x hx size cells players k)
def chkR (l : List S25) (cells players : Int) : Int := if 96 < l.length then 96 else match firstF l.length cells players l 0 with | none => -1 | some i => (i : Int)
theorem check_l0 (l : List S25) (hok : ∀ x ∈ l, OkI x) (hl : l.length < 1000000) (cells players : Int) : ∀ (k i : Nat), i ≤ l.length → l.length - i < k →
    hoodwinkref08_Check.l0 (k + 40) (l.map toX) cells players (l.map toX) (l.length : Int) (i : Int) = some (match firstF l.length cells players (l.drop i) i with | none => -1 | some i => (i : Int))
  | 0, _, _, h => by omega
  | k + 1, i, hi, hk => by
    rw [show k + 1 + 40 = (k + 40) + 1 by omega, hoodwinkref08_Check.l0]
    by_cases h : i < l.length
    · have hx := hok l[i] (List.getElem_mem h)
      have hr := right08_k l[i] hx l.length cells players k
      have hg : l[i]? = some l[i] := List.getElem?_eq_getElem h
      rw [if_pos (by omega), if_pos (by omega), if_pos (by simpa using h), rdY h, List.length_map]
      simp only [toX]
      rw [hr, Option.bind_some, wsuccC i (by omega)]
      cases hb : rightX l[i] l.length cells players with
      | true => rw [if_pos rfl, firstF_yes hg hb]; exact check_l0 l hok hl cells players k (i + 1) (by omega) (by omega)
      | false => rw [if_neg (by decide), firstF_no hg hb]
    · rw [if_neg (by omega), List.drop_eq_nil_of_le (by omega), firstF]
theorem check08_any (A : Option Addr) (c : Nat) (l : List S25) (cells players : Int) (w : World) (hr : k29.C w A l.length (l.map toX)) (hc : l.length ≤ c) (hok : ∀ x ∈ l, OkI x) (hl : l.length < 1000000) :
    Calls Tryd.prog 19 #[.slice A l.length c, .int .i64 cells, .int .i64 players] w fun e w' => e = .returned (.int .i64 (chkR l cells players)) ∧ Below w.heap.size w w' := by
  have h : hoodwinkref08_Check.f (l.length + 1 + 40) (l.map toX) cells players = some (chkR l cells players) := by
    unfold hoodwinkref08_Check.f chkR
    rw [List.length_map]
    by_cases e : 96 < l.length
    · rw [if_pos (by omega), if_pos e]
    · rw [if_neg (by omega), if_neg e]
      have := check_l0 l hok hl cells players (l.length + 1) 0 (by omega) (by omega)
      rw [List.drop_zero] at this
      exact this
  have e := hoodwinkref08_Check.calls (l.length + 1 + 40) A c (l.map toX) cells players _ w (by rw [List.length_map]; exact hr) (by rw [List.length_map]; exact hc) h
  rw [List.length_map] at e
  exact e
/-! ### How many reveal -/
def cntR (l : List S25) : Nat := (l.filter fun x => decide (x.f0 = 22)).length
theorem cntR_snoc {l : List S25} {i : Nat} (h : i < l.length) : cntR (l.take (i + 1)) = cntR (l.take i) + (if l[i].f0 = 22 then 1 else 0) := by
  unfold cntR
  rw [take_next l i h, List.filter_append, List.length_append]
  congr 1
  by_cases e : l[i].f0 = 22 <;> simp [e]
theorem cntR_le (l : List S25) : cntR l ≤ l.length := List.length_filter_le _ _
theorem reals_l0 (l : List S25) (hl : l.length < 1000000) : ∀ (k i : Nat), i ≤ l.length → l.length - i < k →
    code_Reals.l0 k (cntR (l.take i) : Nat) l (l.length : Int) (i : Int) = some ((cntR l : Nat) : Int)
  | 0, _, _, h => by omega
  | k + 1, i, hi, hk => by
    rw [code_Reals.l0]
    by_cases h : i < l.length
    · have hle := cntR_le (l.take i)
      have hll : (l.take i).length ≤ l.length := by simp; omega
      have hs := cntR_snoc h
      have ih := reals_l0 l hl k (i + 1) (by omega) (by omega)
      rw [if_pos (by omega), if_pos (by omega), if_pos (by omega), wsuccC i (by omega), rdX h]
      by_cases e : l[i].f0 = 22
      · rw [if_pos e] at hs ⊢
        rw [wsuccC _ (by omega), ← hs]; exact ih
      · rw [if_neg e] at hs ⊢
        rw [show cntR (l.take (i + 1)) = cntR (l.take i) from hs] at ih; exact ih
    · rw [if_neg (by omega), List.take_of_length_le (by omega)]
theorem reals_any (A : Option Addr) (c : Nat) (l : List S25) (w : World) (hr : k25.C w A l.length l) (hc : l.length ≤ c) (hl : l.length < 1000000) :
    Calls Tryd.prog 20 #[.slice A l.length c] w fun e w' => e = .returned (.int .i64 (cntR l : Nat)) ∧ Below w.heap.size w w' :=
  code_Reals.calls (l.length + 1) A c l _ w hr hc (reals_l0 l hl (l.length + 1) 0 (by omega) (by omega))
set_option maxRecDepth 100000 in
theorem coderight_any (A : Option Addr) (c : Nat) (l : List S25) (cells players : Int) (w : World) (hr : k25.C w A l.length l) (hc : l.length ≤ c) (hok : ∀ x ∈ l, OkI x) (hl : l.length < 1000000) :
    Calls Tryd.prog 13 #[.slice A l.length c, .int .i64 cells, .int .i64 players] w fun e w' => e = .returned (.bool (chkOk l cells players)) ∧ Below w.heap.size w w' := by
  have K := Aside0.mk (check_any A c l cells players w hr hc hok (by omega))
  clear hr hc hok
  go_enter Tryd.func13, Tryd.ntmps13
  go_wp2_with (first | (go_at_call 18; (with_reducible refine K.out.mono ?_); rintro e w3 ⟨rfl, hb⟩))
  go_ret
  exact ⟨rfl, hb⟩
/-! ### One instruction -/
def cells6 (x : S25) : List Value := [.int .u8 x.f0, .int .u8 x.f1, .int .u8 x.f2, .int .u8 x.f3, .int .i32 x.f4, .int .u32 x.f5]
theorem flat6_at : ∀ (l : List S25) (j : Nat) (x : S25), l[j]? = some x → ∀ i u, (cells6 x)[i]? = some u → (l.flatMap cells6)[j * 6 + i]? = some u
  | [], j, x, h, _, _, _ => by simp at h
  | y :: r, 0, x, h, i, u, hu => by
    obtain rfl : y = x := by simpa using h
    have hi : i < (cells6 y).length := (List.getElem?_eq_some_iff.1 hu).1
    rw [List.flatMap_cons, Nat.zero_mul, Nat.zero_add, List.getElem?_append_left hi]; exact hu
  | y :: r, j + 1, x, h, i, u, hu => by
    have h' : r[j]? = some x := by simpa using h
    rw [List.flatMap_cons, List.getElem?_append_right (by simp [cells6]; omega)]
    have e : (j + 1) * 6 + i - (cells6 y).length = j * 6 + i := by simp [cells6]; omega
    rw [e]; exact flat6_at r j x h' i u hu
theorem codes_C {W : World} {g : Nat} {l : List S25} (h : W.heap[g]? = some (.cells (l.flatMap cells6).toArray 25 (0, 0))) (hl : l.length ≤ 9223372036854775807) : k25.C W (some ⟨g, 0, none⟩) l.length l := by
  refine ⟨rfl, hl, fun _ => ⟨_, rfl, fun j p hj => ⟨cells6 p, rfl, k25.K_of_M (k25_mkM W 0 (fun _ => True) p), fun i u hu => ?_⟩⟩⟩
  show W.cell? ((⟨g, 0, none⟩ : Addr).add (j * 6 + i)) = _
  rw [add_plain, cell_of_row W g _ _ _ _ h]
  simpa using flat6_at l j p hj i u hu
theorem one_C {W : World} {g : Nat} {x : S25} (h : W.heap[g]? = some (.cells #[.int .u8 x.f0, .int .u8 x.f1, .int .u8 x.f2, .int .u8 x.f3, .int .i32 x.f4, .int .u32 x.f5] 25 (0, 0))) : k25.C W (some ⟨g, 0, none⟩) 1 [x] :=
  codes_C (l := [x]) h (by simp)
theorem one_right (x : S25) (hx : OkI x) (g : Nat) (cells players : Int) (W : World) (h : W.heap[g]? = some (.cells #[.int .u8 x.f0, .int .u8 x.f1, .int .u8 x.f2, .int .u8 x.f3, .int .i32 x.f4, .int .u32 x.f5] 25 (0, 0))) :
    Calls Tryd.prog 13 #[.slice (some ⟨g, 0, none⟩) 1 1, .int .i64 cells, .int .i64 players] W fun e w' => e = .returned (.bool (chkOk [x] cells players)) ∧ Below W.heap.size W w' :=
  coderight_any (some ⟨g, 0, none⟩) 1 [x] cells players W (one_C h) (by simp) (by simpa using hx) (by simp)
theorem chkOk_one (x : S25) (cells players : Int) : chkOk [x] cells players = rightX x 1 cells players := by
  unfold chkOk
  rw [if_neg (by simp)]
  simp only [List.length_cons, List.length_nil, Nat.zero_add, firstF]
  show (if rightX x 1 cells players = true then none else some 0).isNone = _
  cases rightX x 1 cells players <;> rfl
/-! ### The document's example -/
theorem text_ex : textC 1 1 0 0 (-5) 0 = ⟨#[115, 101, 116, 32, 49, 32, 48, 32, 48, 32, 45, 53, 32, 45]⟩ := by
  have d0 : Lib.decDigits 0 = [48] := by unfold Lib.decDigits; rfl
  have d1 : Lib.decDigits 1 = [49] := by unfold Lib.decDigits; rfl
  have d5 : Lib.decDigits 5 = [53] := by unfold Lib.decDigits; rfl
  have i0 : itoaB 0 = ⟨#[48]⟩ := by unfold itoaB Lib.itoa; rw [if_neg (by omega)]; rw [show (0 : Int).toNat = 0 from rfl, d0]
  have i1 : itoaB 1 = ⟨#[49]⟩ := by unfold itoaB Lib.itoa; rw [if_neg (by omega)]; rw [show (1 : Int).toNat = 1 from rfl, d1]
  have i5 : itoaB (-5) = ⟨#[45, 53]⟩ := by unfold itoaB Lib.itoa; rw [if_pos (by omega)]; rw [show (-5 : Int).natAbs = 5 from rfl, d5]
  have t0 : textF 0 = ⟨#[45]⟩ := by unfold textF; rw [if_pos (by decide)]
  unfold textC textL
  rw [if_pos (by omega)]
  rw [show ((1 : Nat) : Int) = 1 from rfl, show ((0 : Nat) : Int) = 0 from rfl, i0, i1, i5, t0]
  rfl
theorem stop_ok : OkI ⟨0, 0, 0, 0, 0, 0⟩ := by unfold OkI; simp
theorem stop_right : chkOk [(⟨0, 0, 0, 0, 0, 0⟩ : S25)] 1 1 = true := by rw [chkOk_one]; unfold rightX; decide +kernel
set_option maxRecDepth 100000 in
set_option maxHeartbeats 4000000 in
theorem awake_any (w : World) (hT : CTab w) :
    Calls Tryd.prog 10 #[] w fun e w' => e = .returned (.bool true) ∧ Below w.heap.size w w' := by
  have HB := Aside0.mk (Below.refl w.heap.size w)
  have KT : Aside0 (∀ z : World, CTab z → Calls Tryd.prog 15 #[.agg #[.int .u8 1, .int .u8 1, .int .u8 0, .int .u8 0, .int .i32 (-5), .int .u32 0]] z fun e w' => e = .returned (.string ⟨#[115, 101, 116, 32, 49, 32, 48, 32, 48, 32, 45, 53, 32, 45]⟩) ∧ Below z.heap.size z w') := ⟨fun z hz => by
    have h := text08_any 1 1 0 0 (-5) 0 (by omega) (by omega) (by omega) (by omega) (by omega) (by omega) z hz
    rw [text_ex] at h
    exact h⟩
  have KR : Aside0 (∀ z : World, Calls Tryd.prog 13 #[.slice (some ⟨z.heap.size, 0, none⟩) 1 1, .int .i64 1, .int .i64 1] (z.alloc (.cells #[.int .u8 0, .int .u8 0, .int .u8 0, .int .u8 0, .int .i32 0, .int .u32 0] 25)) fun e w' => e = .returned (.bool true) ∧ Below (z.alloc (.cells #[.int .u8 0, .int .u8 0, .int .u8 0, .int .u8 0, .int .i32 0, .int .u32 0] 25)).heap.size (z.alloc (.cells #[.int .u8 0, .int .u8 0, .int .u8 0, .int .u8 0, .int .i32 0, .int .u32 0] 25)) w') := ⟨fun z => by
    have h := one_right ⟨0, 0, 0, 0, 0, 0⟩ stop_ok z.heap.size 1 1 _ (World.alloc_heap_new z _)
    rw [stop_right] at h
    exact h⟩
  go_enter Tryd.func10, Tryd.ntmps10
  go_wp2_with (first
    | (go_at_call 15; (with_reducible refine (KT.out _ (hT.below HB.out)).mono ?_); rintro e w1 ⟨rfl, hb⟩; replace HB := Aside0.mk (bel_t8 HB.out hb); clear hb)
    | (go_at_call 13; (with_reducible refine (KR.out _).mono ?_); rintro e w1 ⟨rfl, hb⟩; replace HB := Aside0.mk (bel_t8 (below_alloc HB.out _) hb); clear hb))
  go_ret
  exact ⟨rfl, HB.out⟩
end Go.Proofs.YthimlgkegobaeaaDoor
