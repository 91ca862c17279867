/- The document's Split, in plain words. -/
import Derived.Test.YtmhninlndjcikaaR3
import Derived.Test.YtmhninlndjcikaaK1
namespace Go.Proofs.Ytmhninlndjcikaa
open Go.RowKit Go.Proofs.YtmhninlndjcikaaW.PrintWords Go.Proofs.YtmhninlndjcikaaW.PrintLast Go.Proofs.YtmhninlndjcikaaW.PrintMore
set_option linter.unusedVariables false
set_option linter.unusedSimpArgs false

/-- A piece as the document has it, t bytes having come. -/
def halfP (l : List Int) (t i : Nat) : S49 := ⟨decide (i = 0), false, (l.drop (64 * i)).take (min 64 (t - 64 * i))⟩
def halves (l : List Int) (t : Nat) : List S49 := (List.range (countN t)).map (halfP l t)
def want (l : List Int) : List S49 := (pieces l).map fun x => ⟨x.f, x.l, x.d⟩
theorem halves_length (l : List Int) (t : Nat) : (halves l t).length = countN t := by simp [halves]
theorem halves_get (l : List Int) (t : Nat) {i : Nat} (h : i < (halves l t).length) : (halves l t)[i] = halfP l t i := by simp [halves]
theorem rd_getS {xs : List S49} {j : Nat} (h : j < xs.length) : rd_T49 xs (j : Int) = xs[j] := by
  unfold rd_T49; rw [List.getD_eq_getElem?_getD, Int.toNat_natCast, List.getElem?_eq_getElem h]; rfl
theorem drop_take_succ {l : List Int} {a k : Nat} (h : a + k < l.length) : (l.drop a).take (k + 1) = (l.drop a).take k ++ [l[a + k]] := by
  rw [List.take_succ_eq_append_getElem (by rw [List.length_drop]; omega), List.getElem_drop]
theorem half_len {l : List Int} {t i : Nat} (ht : t ≤ l.length) (hi : 64 * i ≤ t) : (halfP l t i).f2.length = min 64 (t - 64 * i) := by
  show ((l.drop (64 * i)).take _).length = _
  rw [List.length_take, List.length_drop]; omega
theorem halves_full {l : List Int} {t c : Nat} (ht : t < l.length) (hc : countN t = c) (h : t = 64 * c) : halves l t ++ [⟨false, false, [l[t]]⟩] = halves l (t + 1) := by
  have hc1 : countN (t + 1) = c + 1 := by unfold countN at *; omega
  have hc0 : 0 < c := by rw [← hc]; exact countN_pos t
  unfold halves
  rw [hc1, hc, List.range_succ, List.map_append]
  congr 1
  · apply List.map_congr_left
    intro i hi
    have := List.mem_range.1 hi
    unfold halfP
    rw [show min 64 (t - 64 * i) = min 64 (t + 1 - 64 * i) by omega]
  · simp only [List.map_cons, List.map_nil]
    unfold halfP
    rw [decide_eq_false (by omega), show min 64 (t + 1 - 64 * c) = 0 + 1 by omega, drop_take_succ (by omega)]
    simp [h]
theorem halves_more {l : List Int} {t c : Nat} (ht : t < l.length) (hc : countN t = c) (h : ¬ t = 64 * c) :
    (halves l t).set (c - 1) ⟨(halfP l t (c - 1)).f0, (halfP l t (c - 1)).f1, (halfP l t (c - 1)).f2 ++ [l[t]]⟩ = halves l (t + 1) := by
  have hc0 : 0 < c := by rw [← hc]; exact countN_pos t
  have hc1 : countN (t + 1) = c := by unfold countN at *; omega
  have hlo : 64 * (c - 1) ≤ t := by unfold countN at hc; omega
  have hhi : t < 64 * c := by unfold countN at hc; omega
  apply List.ext_getElem
  · rw [List.length_set, halves_length, halves_length, hc, hc1]
  · intro i h1 h2
    rw [List.getElem_set, halves_get l (t + 1)]
    rw [halves_length, hc1] at h2
    by_cases e : c - 1 = i
    · rw [if_pos e]
      subst e
      unfold halfP
      simp only
      congr 1
      rw [show min 64 (t + 1 - 64 * (c - 1)) = (t - 64 * (c - 1)) + 1 by omega, show min 64 (t - 64 * (c - 1)) = t - 64 * (c - 1) by omega, drop_take_succ (by omega)]
      congr 2
      congr 1
      omega
    · rw [if_neg e, halves_get]
      unfold halfP
      rw [show min 64 (t - 64 * i) = min 64 (t + 1 - 64 * i) by omega]
theorem halves_end {l : List Int} {c : Nat} (hc : countN l.length = c) (hl : l.length ≤ 1024) :
    (halves l l.length).set (c - 1) ⟨(halfP l l.length (c - 1)).f0, true, (halfP l l.length (c - 1)).f2⟩ = want l := by
  have hc0 : 0 < c := by rw [← hc]; exact countN_pos _
  apply List.ext_getElem
  · rw [List.length_set, halves_length]; simp [want, pieces]
  · intro i h1 h2
    have hi : i < c := by rw [List.length_set, halves_length, hc] at h1; exact h1
    have hd : (l.drop (64 * i)).take (min 64 (l.length - 64 * i)) = (l.drop (64 * i)).take 64 := by
      apply List.take_eq_take_iff.2
      rw [List.length_drop]; omega
    rw [List.getElem_set]
    simp only [want, List.getElem_map, pieces_get]
    by_cases e : c - 1 = i
    · rw [if_pos e]
      subst e
      unfold halfP pieceN
      simp only
      rw [hd, hc, decide_eq_true (show c - 1 + 1 = c by omega)]
    · rw [if_neg e, halves_get]
      unfold halfP pieceN
      simp only
      rw [hd, hc, decide_eq_false (show ¬ i + 1 = c by omega)]
theorem split_l0 (l : List Int) (hl : l.length ≤ 1024) : ∀ (d k t : Nat), t + d = l.length → d < k → hoodwinkref12_Split.l0 k (halves l t) l (l.length : Int) (t : Int) = some (want l)
  | 0, k, t, ht, hk => by
    obtain ⟨k, rfl⟩ : ∃ q, k = q + 1 := ⟨k - 1, by omega⟩
    obtain rfl : t = l.length := by omega
    have hc0 := countN_pos l.length
    have hc1 := countN_le hl
    have e1 : wrap64 (((halves l l.length).length : Int) - 1) = ((countN l.length - 1 : Nat) : Int) := by rw [halves_length, w64 (by omega)]; omega
    simp only [hoodwinkref12_Split.l0]
    rw [e1, if_neg (by omega), if_pos (by omega), if_pos (by rw [halves_length]; omega), rd_getS (by rw [halves_length]; omega), halves_get, Int.toNat_natCast, halves_end rfl hl]
  | d + 1, k, t, ht, hk => by
    obtain ⟨k, rfl⟩ : ∃ q, k = q + 1 := ⟨k - 1, by omega⟩
    have htl : t < l.length := by omega
    have ih := split_l0 l hl d k (t + 1) (by omega) (by omega)
    have hc0 := countN_pos t
    have hc1 := countN_le (show t ≤ 1024 by omega)
    obtain ⟨c, hc⟩ : ∃ c, countN t = c := ⟨_, rfl⟩
    have hlo : 64 * (c - 1) ≤ t := by unfold countN at hc; omega
    have hhi : t ≤ 64 * c := by unfold countN at hc; omega
    have hlen : (halves l t).length = c := by rw [halves_length, hc]
    have e1 : wrap64 (((halves l t).length : Int) - 1) = ((c - 1 : Nat) : Int) := by rw [hlen, w64 (by omega)]; omega
    have hlast : rd_T49 (halves l t) ((c - 1 : Nat) : Int) = halfP l t (c - 1) := by rw [rd_getS (by rw [hlen]; omega), halves_get]
    simp only [hoodwinkref12_Split.l0]
    rw [e1, hlast, if_pos (by omega), if_pos (by omega), if_pos (by omega), if_pos (by omega), if_pos (by rw [hlen]; omega), half_len (by omega) hlo, rd_getElem htl, next64 (by omega)]
    by_cases h : t = 64 * c
    · rw [if_pos (by omega), if_pos (by rw [hlen]; omega)]
      have e2 : wrap64 (((halves l t ++ [(⟨false, false, ([] : List Int)⟩ : S49)]).length : Int) - 1) = (c : Int) := by rw [List.length_append, hlen, w64 (by simp; omega)]; simp
      have e3 : rd_T49 (halves l t ++ [(⟨false, false, ([] : List Int)⟩ : S49)]) (c : Int) = ⟨false, false, []⟩ := by
        rw [rd_getS (by rw [List.length_append, hlen]; simp), List.getElem_append_right (by omega)]
        simp [hlen]
      simp only [Option.bind_some]
      rw [e2, e3, if_pos (by omega), if_pos (by rw [List.length_append, hlen]; simp; omega), if_pos (by simp), Int.toNat_natCast]
      have e4 : (halves l t ++ [(⟨false, false, ([] : List Int)⟩ : S49)]).set c ⟨false, false, [] ++ [l[t]]⟩ = halves l t ++ [⟨false, false, [l[t]]⟩] := by
        rw [List.set_append_right _ _ (by omega), hlen]; simp
      simp only
      rw [e4, halves_full htl hc h]
      exact ih
    · rw [if_neg (by omega), if_pos (by omega), Int.toNat_natCast, halves_more htl hc h]
      exact ih
theorem split_f (l : List Int) (hl : l.length ≤ 1024) : hoodwinkref12_Split.f (l.length + 1) l = some (want l) := by
  have := split_l0 l hl l.length (l.length + 1) 0 (by omega) (by omega)
  simpa [hoodwinkref12_Split.f, halves, countN, halfP] using this
theorem refsplit_any (A : Option Addr) (n c : Nat) (l : List Int) (w : World) (hr : (Kd.int .u8).C w A n l) (hc : n ≤ c) (hn : n ≤ 1024) :
    Calls Try.prog 21 #[.slice A n c] w fun e w' => ∃ Q d, e = .returned (.slice Q (want l).length d) ∧ (want l).length ≤ d ∧ Kd.C k49 w' Q (want l).length (want l) ∧ Below w.heap.size w w' := by
  obtain rfl := hr.1
  refine (hoodwinkref12_Split.calls (l.length + 1) A c l _ w hr hc (split_f l hn)).mono ?_
  rintro e w' ⟨v, rfl, hS, hb⟩
  obtain ⟨Q, d, rfl⟩ := Kd.S_slice hS
  exact ⟨Q, d, rfl, (Kd.S_reads' hS).2.1, (Kd.S_reads' hS).2.2, hb⟩
end Go.Proofs.Ytmhninlndjcikaa
