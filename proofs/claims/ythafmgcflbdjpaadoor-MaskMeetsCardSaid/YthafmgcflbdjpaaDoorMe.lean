/- The mask's functions: contracts in plain words; the example of the document. -/
import Derived.Test.YthafmgcflbdjpaaDoorMd
namespace Go.Proofs.YthafmgcflbdjpaaDoor
open Go.RowKit Go.Shelf Go.Proofs.YthafmgcflbdjpaaDoorW.PrintWords Go.Proofs.YthafmgcflbdjpaaDoorW.PrintLast Go.Proofs.YthafmgcflbdjpaaDoorW.PrintMore
set_option linter.unusedVariables false
set_option linter.unusedSimpArgs false

/-- The library's table lies there. -/
def Tabs (w : World) : Prop := TabAt w ∧ 0 < w.heap.size
theorem Tabs.below {w w' : World} (h : Tabs w) (hb : Below w.heap.size w w') : Tabs w' := ⟨h.1.below hb, Nat.lt_of_lt_of_le h.2 hb.size⟩
theorem drawn_below {w w' : World} (h : Drawn0 w w') : Below w.heap.size w w' := h.below

/-- A slice of its own that is read. -/
theorem cells_C {k : IntKind} {w : World} {b : Nat} {l : List Int} (hl : l.length < 4611686018427387904) (h : ∀ j (hj : j < l.length), w.cell? ⟨b, j, none⟩ = some (.int k l[j])) : (Kd.int k).C w (some ⟨b, 0, none⟩) l.length l := by
  refine ⟨rfl, by omega, fun _ => ⟨_, rfl, fun j p hj => ⟨[.int k p], rfl, rfl, fun i u hu => ?_⟩⟩⟩
  have hi0 : i = 0 := by
    have := (List.getElem?_eq_some_iff.1 hu).1
    simp at this; exact this
  subst hi0
  obtain rfl : Value.int k p = u := by simpa using hu
  obtain ⟨hlt, rfl⟩ := List.getElem?_eq_some_iff.1 hj
  show w.cell? ((⟨b, 0, none⟩ : Addr).add (j * 1 + 0)) = _
  have e : (⟨b, 0, none⟩ : Addr).add (j * 1 + 0) = ⟨b, j, none⟩ := by unfold Addr.add; cases j <;> simp
  rw [e]
  exact h j hlt
theorem with_any (a : Nat) (ha : a < 4294967296) (A : Option Addr) (c : Nat) (l : List Int) (w : World) (hr : (Kd.int .i64).C w A l.length l) (hc : l.length ≤ c) (hl : l.length < 4611686018427387904) :
    Calls Tryd.prog 21 #[.int .u32 a, .slice A l.length c] w fun e w' => e = .returned (.int .u32 (withN a l : Nat)) ∧ Below w.heap.size w w' :=
  (mask_Mask_With.calls _ _ A c l _ w hr hc (with_f l hl a ha)).mono fun e w' h => ⟨h.1, h.2.below⟩
theorem of_any (A : Option Addr) (c : Nat) (l : List Int) (w : World) (hr : (Kd.int .i64).C w A l.length l) (hc : l.length ≤ c) (hl : l.length < 4611686018427387904) :
    Calls Tryd.prog 9 #[.slice A l.length c] w fun e w' => e = .returned (.int .u32 (withN 0 l : Nat)) ∧ Below w.heap.size w w' :=
  (mask_Of.calls _ A c l _ w hr hc (of_f l hl)).mono fun e w' h => ⟨h.1, h.2.below⟩
theorem with1_any (a : Nat) (ha : a < 4294967296) (b : Nat) (o : Int) (w : World) (h : w.cell? ⟨b, 0, none⟩ = some (.int .i64 o)) :
    Calls Tryd.prog 21 #[.int .u32 a, .slice (some ⟨b, 0, none⟩) 1 1] w fun e w' => e = .returned (.int .u32 (withN a [o] : Nat)) ∧ Below w.heap.size w w' :=
  with_any a ha (some ⟨b, 0, none⟩) 1 [o] w (cells_C (by simp [natI]) (by intro j hj; have e : j = 0 := (by simpa using hj); subst e; exact h)) (by simp) (by simp)
theorem of1_any (b : Nat) (o : Int) (w : World) (h : w.cell? ⟨b, 0, none⟩ = some (.int .i64 o)) :
    Calls Tryd.prog 9 #[.slice (some ⟨b, 0, none⟩) 1 1] w fun e w' => e = .returned (.int .u32 (withN 0 [o] : Nat)) ∧ Below w.heap.size w w' :=
  of_any (some ⟨b, 0, none⟩) 1 [o] w (cells_C (by simp [natI]) (by intro j hj; have e : j = 0 := (by simpa using hj); subst e; exact h)) (by simp) (by simp)
theorem of0_any (w : World) :
    Calls Tryd.prog 9 #[.slice none 0 0] w fun e w' => e = .returned (.int .u32 (withN 0 [] : Nat)) ∧ Below w.heap.size w w' :=
  of_any none 0 [] w ⟨rfl, by simp, fun h => by simp at h⟩ (by simp) (by simp)
theorem meet1_any (a b : Nat) (ha : a < 4294967296) (hb : b < 4294967296) (g : Nat) (w : World) (h : w.cell? ⟨g, 0, none⟩ = some (.int .u32 b)) :
    Calls Tryd.prog 23 #[.int .u32 a, .slice (some ⟨g, 0, none⟩) 1 1] w fun e w' => e = .returned (.int .u32 (a &&& b : Nat)) ∧ Below w.heap.size w w' :=
  (mask_Mask_Meet.calls _ _ (some ⟨g, 0, none⟩) 1 (natI [b]) _ w (cells_C (by simp [natI]) (by intro j hj; have e : j = 0 := (by simpa [natI] using hj); subst e; exact h)) (by simp [natI]) (meet_f [b] (by simp; omega) (by simp) a ha)).mono fun e w' h => ⟨h.1, h.2.below⟩
theorem join1_any (a b : Nat) (ha : a < 4294967296) (hb : b < 4294967296) (g : Nat) (w : World) (h : w.cell? ⟨g, 0, none⟩ = some (.int .u32 b)) :
    Calls Tryd.prog 24 #[.int .u32 a, .slice (some ⟨g, 0, none⟩) 1 1] w fun e w' => e = .returned (.int .u32 (a ||| b : Nat)) ∧ Below w.heap.size w w' :=
  (mask_Mask_Join.calls _ _ (some ⟨g, 0, none⟩) 1 (natI [b]) _ w (cells_C (by simp [natI]) (by intro j hj; have e : j = 0 := (by simpa [natI] using hj); subst e; exact h)) (by simp [natI]) (join_f [b] (by simp; omega) (by simp) a ha)).mono fun e w' h => ⟨h.1, h.2.below⟩
theorem less_any (a b : Nat) (ha : a < 4294967296) (hb : b < 4294967296) (w : World) :
    Calls Tryd.prog 22 #[.int .u32 a, .int .u32 b] w fun e w' => e = .returned (.int .u32 (lessN a b : Nat)) ∧ Below w.heap.size w w' :=
  (mask_Mask_Less.calls _ _ _ w (less_f a b ha hb)).mono fun e w' h => ⟨h.1, h.2.below⟩
theorem within_any (a b : Nat) (ha : a < 4294967296) (hb : b < 4294967296) (w : World) :
    Calls Tryd.prog 20 #[.int .u32 a, .int .u32 b] w fun e w' => e = .returned (.bool (lessN a b == 0)) ∧ Below w.heap.size w w' :=
  (mask_Mask_Within.calls _ _ _ w (within_f a b ha hb)).mono fun e w' h => ⟨h.1, h.2.below⟩
theorem has_any (a : Nat) (ha : a < 4294967296) (o : Int) (w : World) :
    Calls Tryd.prog 13 #[.int .u32 a, .int .i64 o] w fun e w' => e = .returned (.bool (hasN a o)) ∧ Below w.heap.size w w' :=
  (mask_Mask_Has.calls _ _ _ w (has_f a ha o)).mono fun e w' h => ⟨h.1, h.2.below⟩
theorem all_any (n : Int) (w : World) :
    Calls Tryd.prog 12 #[.int .i64 n] w fun e w' => e = .returned (.int .u32 (allN n : Nat)) ∧ Below w.heap.size w w' :=
  mask_All.calls _ _ w (all_f n)
theorem count_any (a : Nat) (ha : a < 4294967296) (w : World) :
    Calls Tryd.prog 15 #[.int .u32 a] w fun e w' => e = .returned (.int .i64 (pop 32 a : Nat)) ∧ Below w.heap.size w w' := by
  go_enter Tryd.func15, Tryd.ntmps15
  go_wp2_with (go_at_call 26; refine (ones_any a ha _).mono ?_; rintro e w' ⟨rfl, hb⟩)
  go_ret
  exact ⟨rfl, hb⟩

theorem obs10 : obsF 10 = [1, 3] := by decide
theorem text10 : textF 10 = ⟨#[49, 44, 51]⟩ := by
  unfold textF
  rw [obs10, if_neg (by simp)]
  simp only [List.map_cons, List.map_nil]
  rw [show Lib.decDigits (1 : Fin 32).val = [49] by show Lib.decDigits 1 = _; unfold Lib.decDigits; simp, show Lib.decDigits (3 : Fin 32).val = [51] by show Lib.decDigits 3 = _; unfold Lib.decDigits; simp]
  rfl
theorem text0 : textF 0 = ⟨#[45]⟩ := by
  unfold textF
  rw [if_pos (by decide)]
set_option maxHeartbeats 1000000 in
set_option maxRecDepth 100000 in
theorem awake_any (w : World) (hT : Tabs w) :
    Calls Tryd.prog 7 #[] w fun e w' => e = .returned (.bool true) ∧ Below w.heap.size w w' := by
  have HB := Aside0.mk (Below.refl w.heap.size w)
  go_enter Tryd.func7, Tryd.ntmps7
  have hof : ∀ W : World, W.cell? ⟨w.heap.size, 0, none⟩ = some (.int .i64 3) → W.cell? ⟨w.heap.size, 1, none⟩ = some (.int .i64 1) → Calls Tryd.prog 9 #[.slice (some ⟨w.heap.size, 0, none⟩) 2 2] W fun e w' => e = .returned (.int .u32 10) ∧ Below W.heap.size W w' := by
    intro W h0 h1
    exact of_any (some ⟨w.heap.size, 0, none⟩) 2 [3, 1] W (cells_C (by simp) (by
      intro j hj
      match j, hj with
      | 0, _ => exact h0
      | 1, _ => exact h1)) (by simp) (by simp)
  go_wp2_with (first
    | (go_at_call 9; refine (hof _ (by go_simp) (by go_simp)).mono ?_; rintro e w1 ⟨rfl, hb1⟩; replace HB := Aside0.mk ((below_alloc HB.out _).trans (hb1.mono (by simp))))
    | (go_at_call 18; refine (text_any 10 (by omega) _ (hT.below HB.out).1 (hT.below HB.out).2).mono ?_; rw [text10]; rintro e w2 ⟨rfl, hb2⟩; replace HB := Aside0.mk (HB.out.trans (hb2.mono HB.out.size)))
    | (go_at_call 12; refine (all_any 2 _).mono ?_; rintro e w3 ⟨rfl, hb3⟩; replace HB := Aside0.mk (HB.out.trans (hb3.mono HB.out.size)))
    | (go_at_call 13; refine (has_any (allN 2) (allN_lt 2) 1 _).mono ?_; rintro e w4 ⟨rfl, hb4⟩; replace HB := Aside0.mk (HB.out.trans (hb4.mono HB.out.size))))
  have eh : hasN (allN 2) 1 = true := by decide
  rw [eh]
  go_ret
  exact ⟨rfl, HB.out⟩
end Go.Proofs.YthafmgcflbdjpaaDoor
