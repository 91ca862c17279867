/- The parts of this proof, one behind the other: contracts of the functions, plain laws, the walk. -/
import Derived.Test.YticpjidcgaaldaaMsaa
import Derived.Lib.SliceRun
import Derived.WalkSpells
import Derived.Test.YticpjidcgaaldaaProg
import Derived.Below
import Derived.Deep.Draws
import Derived.Deep.AppendLies
import Derived.Maps.AppendAt
import Derived.OwnWalk
import Derived.Laws.BytesArg
import Derived.Laws.MakeOwn
import Derived.Laws.OwnMore
import Derived.Deep.OwnRows
import Derived.Tactics
import Derived.Lib.ConvBytes
import Derived.Laws.Slices
import Derived.WalkKit
import Derived.KernelRfl
import Derived.RowKit3
import Derived.Deep.LoopGhost
import Derived.Deep.QuietTactic
import Derived.BigQuiet
import Derived.WideLaws
import Derived.Deep.DeepCutAuto
import Derived.Deep.CutBlock
import Derived.Deep.RegionHeld3
import Derived.Laws.Rows
import Derived.Lib.AppendStr
import Derived.ArgAppend
import Derived.Laws.IdiomCopy
import Derived.OrdersHeld
import Derived.Laws.BitsLemmas
import Derived.RowKit
import Derived.Test.YticpjidcgaaldaaWWords
import Derived.Test.YticpjidcgaaldaaWLast
import Derived.Test.YticpjidcgaaldaaWTab
import Derived.Test.YticpjidcgaaldaaWQPut
import Derived.Test.YticpjidcgaaldaaWApart
import Derived.Test.YticpjidcgaaldaaWArr
import Derived.Test.YticpjidcgaaldaaWZeros
import Derived.Test.YticpjidcgaaldaaWFoot
import Derived.Test.YticpjidcgaaldaaWKept
import Derived.Test.YticpjidcgaaldaaWShare
import Derived.Test.YticpjidcgaaldaaWN
import Derived.Test.YticpjidcgaaldaaWEqStruct
import Derived.Test.YticpjidcgaaldaaWNEv
import Derived.Test.YticpjidcgaaldaaWMore
import Derived.Lib.LazyBuf
namespace Go.Proofs.Yticpjidcgaaldaa
open Go.RowKit Go.Proofs.YticpjidcgaaldaaW.PrintWords Go.Proofs.YticpjidcgaaldaaW.PrintLast Go.Proofs.YticpjidcgaaldaaW.PrintMore
set_option linter.unusedVariables false

abbrev Fill := Nat × Nat × Nat
def fillsOk (ops : Array Oper) (fl : List Fill) : Bool :=
  fl.all fun f => (match ops[f.2.1]? with | some o => depOn o f.1 && depOn o f.2.2 && o.guard.isNone | none => false) && (match ops[f.1]? with | some o => o.guard.isNone | none => false) && decide (f.1 < ops.size) && decide (f.2.1 < ops.size) && decide (f.1 ≠ f.2.1) && decide (f.2.2 ≠ f.2.1) && decide (f.2.2 ≠ f.1) &&
    fl.all fun f' => (f.1 == f'.1) == (f.2.1 == f'.2.1) && (f.1 == f'.1) == (f == f') && f.1 != f'.2.1 && f.1 != f'.2.2 && f.2.1 != f'.2.2
structure FillAt (ops : Array Oper) (fl : List Fill) (f : Fill) : Prop where
  dep : ∀ o, ops[f.2.1]? = some o → depOn o f.1 = true ∧ depOn o f.2.2 = true ∧ o.guard = none
  free : ∀ o, ops[f.1]? = some o → o.guard = none
  lt : f.1 < ops.size ∧ f.2.1 < ops.size
  one : f.1 ≠ f.2.1 ∧ f.2.2 ≠ f.2.1 ∧ f.2.2 ≠ f.1
  two : ∀ f' ∈ fl, (f.1 = f'.1 ↔ f.2.1 = f'.2.1) ∧ (f.1 = f'.1 ↔ f = f') ∧ f.1 ≠ f'.2.1 ∧ f.1 ≠ f'.2.2 ∧ f.2.1 ≠ f'.2.2
theorem fillAt {ops : Array Oper} {fl : List Fill} (h : fillsOk ops fl = true) {f : Fill} (hf : f ∈ fl) : FillAt ops fl f := by
  have := List.all_eq_true.1 h f hf
  simp only [Bool.and_eq_true, decide_eq_true_eq] at this
  obtain ⟨⟨⟨⟨⟨⟨⟨h1, h2⟩, h3⟩, h4⟩, h5⟩, h6⟩, h7⟩, h8⟩ := this
  refine ⟨fun o ho => ?_, fun o ho => ?_, ⟨h3, h4⟩, ⟨h5, h6, h7⟩, fun f' hf' => ?_⟩
  · rw [ho] at h1
    simp only [Bool.and_eq_true, Option.isNone_iff_eq_none] at h1
    exact ⟨h1.1.1, h1.1.2, h1.2⟩
  · rw [ho] at h2
    simpa using h2
  · have := List.all_eq_true.1 h8 f' hf'
    simp only [Bool.and_eq_true, bne_iff_ne, ne_eq, beq_iff_eq] at this
    obtain ⟨⟨⟨⟨a, b⟩, c⟩, d⟩, e⟩ := this
    refine ⟨?_, ?_, c, d, e⟩
    · have := a
      constructor
      · intro hh; simpa [hh] using this
      · intro hh; simpa [hh] using this
    · have := b
      constructor
      · intro hh; simpa [hh] using this
      · intro hh; rw [hh]
def StabX (B : Nat) (Zo : Obj) : List (World → Value → Prop) → Prop
  | [] => True
  | p :: l => (∀ F w w' v, Fills B Zo F w w' → p w v → p w' v) ∧ StabX B Zo l
theorem StabX.at_ {B : Nat} {Zo : Obj} : ∀ (l : List (World → Value → Prop)) (i : Nat), StabX B Zo l → ∀ F w w' v, Fills B Zo F w w' → Vat l i w v → Vat l i w' v
  | [], i, _ => by
    have : Vat [] i = fun _ _ => True := by simp [Vat]
    rw [this]; exact fun _ _ _ _ _ h => h
  | p :: l, 0, h => h.1
  | p :: l, i + 1, h => by
    have := StabX.at_ l i h.2
    unfold Vat at this ⊢
    rw [List.getD_cons_succ]; exact this
def HopX (P : Program) (ops : Array Oper) (a0 : Act) (yv : Nat → Option Bool) (W : World) (fl : List Fill) (Z : Array Value) (T : TypeId) (Vl : List (World → Value → Prop)) (i : Nat) (o : Oper) : Prop :=
  match fl.find? (fun f => f.2.1 == i) with
  | some f => ∀ (vs : Nat → Value) w g cur cs, Below W.heap.size W w → (∀ j, depOn o j = true → Vat Vl j w (vs j)) → vs f.1 = .pointer (some ⟨g, 0, none⟩) → vs f.2.2 = .agg cs → w.heap[g]? = some (.cells cur T (0, 0)) → cur.size = Z.size → runs P o (rho ops a0 (depOn o) vs) w (fun _ w' => w' = w.setRow g cs)
  | none => match fl.find? (fun f => f.1 == i) with
    | some f => ∀ (vs : Nat → Value) w, runs P o (rho ops a0 (depOn o) vs) w (fun v w' => v = .pointer (some ⟨w.heap.size, 0, none⟩) ∧ w' = w.alloc (.cells Z T))
    | none => ∀ (vs : Nat → Value) w, Below W.heap.size W w → (∀ j, depOn o j = true → Vat Vl j w (vs j)) → if wants yv o = true then runs P o (rho ops a0 (depOn o) vs) w (fun v w' => Below w.heap.size w w' ∧ Vat Vl i w' v) else Vat Vl i w undef
def HopXAll (P : Program) (ops : Array Oper) (a0 : Act) (yv : Nat → Option Bool) (W : World) (fl : List Fill) (Z : Array Value) (T : TypeId) (Vl : List (World → Value → Prop)) : Nat → List Oper → Prop
  | _, [] => True
  | i, o :: l => HopX P ops a0 yv W fl Z T Vl i o ∧ HopXAll P ops a0 yv W fl Z T Vl (i + 1) l
theorem HopXAll.at_ {P : Program} {ops : Array Oper} {a0 : Act} {yv : Nat → Option Bool} {W : World} {fl : List Fill} {Z : Array Value} {T : TypeId} {Vl : List (World → Value → Prop)} : ∀ (l : List Oper) (k i : Nat) (o : Oper), HopXAll P ops a0 yv W fl Z T Vl k l → l[i]? = some o → HopX P ops a0 yv W fl Z T Vl (k + i) o
  | [], k, i, o, _, h => by simp at h
  | x :: l, k, 0, o, h, ho => by
    obtain rfl : x = o := by simpa using ho
    exact h.1
  | x :: l, k, i + 1, o, h, ho => by
    have := HopXAll.at_ l (k + 1) i o h.2 (by simpa using ho)
    rw [show k + 1 + i = k + (i + 1) by omega] at this
    exact this
theorem region_fills {P : Program} {ops : Array Oper} {Q : Exit → Act → World → Prop} {a0 : Act} {id : Nat} {W : World} (fl : List Fill) (Z : Array Value) (T : TypeId) (Vl : List (World → Value → Prop)) (yv : Nat → Option Bool) (D : List (Nat × Option Tmp)) (G : List Nat)
    (hm : P.follows .mixedOrders = true) (hok : regionOk ops a0.tmps.size = true) (hD : (List.range ops.size).map (fun i => (i, dstOf ops i)) = D) (hG : (ops.all fun o => match o.guard with | none => true | some (j, _) => G.contains j) = true) (hfl : fillsOk ops fl = true)
    (hyv : ∀ j ∈ G, ∀ w v, Vat Vl j w v → boolOf v = yv j)
    (hst : StabX W.heap.size (.cells Z T (0, 0)) Vl) (hVt : ∀ f ∈ fl, (∀ w v, Vat Vl f.1 w v) ∧ ∀ w v, Vat Vl f.2.1 w v) (hagg : ∀ f ∈ fl, ∀ w v, Vat Vl f.2.2 w v → ∃ cs, v = .agg cs)
    (hop : HopXAll P ops a0 yv W fl Z T Vl 0 ops.toList)
    (hend : ∀ (vs : Nat → Value) w, Below W.heap.size W w → (∀ i, i < ops.size → Vat Vl i w (vs i)) → (∀ f ∈ fl, ∃ g cs, vs f.1 = .pointer (some ⟨g, 0, none⟩) ∧ W.heap.size ≤ g ∧ vs f.2.2 = .agg cs ∧ w.heap[g]? = some (.cells cs T (0, 0))) → (∀ f ∈ fl, ∀ f' ∈ fl, f.1 ≠ f'.1 → vs f.1 ≠ vs f'.1) → Q .normal (putAll vs D a0) w) : (Code.region id ops true).wp P Q a0 W := by
  have hs := fun i => StabX.at_ Vl i hst
  let FI : (Nat → Bool) → (Nat → Value) → World → Fill → Prop := fun L vs w f => L f.1 = true → ∃ g, vs f.1 = .pointer (some ⟨g, 0, none⟩) ∧ W.heap.size ≤ g ∧ g < w.heap.size ∧ (L f.2.1 = true → ∃ cs, vs f.2.2 = .agg cs ∧ w.heap[g]? = some (.cells cs T (0, 0))) ∧ (L f.2.1 = false → w.heap[g]? = some (.cells Z T (0, 0)))
  let I : (Nat → Bool) → (Nat → Value) → World → Prop := fun L vs w => Below W.heap.size W w ∧ (∀ i, L i = true → Vat Vl i w (vs i)) ∧ (∀ f ∈ fl, FI L vs w f) ∧ ∀ f ∈ fl, ∀ f' ∈ fl, f.1 ≠ f'.1 → L f.1 = true → L f'.1 = true → vs f.1 ≠ vs f'.1
  refine region_inv I yv D hm hok hD ?_ ⟨below_drew (Below.refl _ _), (fun i h => by cases h), (fun f _ h => by cases h), fun f _ f' _ _ h => by cases h⟩ ?_ ?_
  · intro i o j b ho hgd L vs w hI hL
    refine hyv j ?_ w _ (hI.2.1 j hL)
    rw [Array.all_eq_true'] at hG
    have := hG o (Array.mem_of_getElem? ho)
    rw [hgd] at this
    exact List.contains_iff_mem.1 this
  · intro i o ho L vs w hLi hcl hdep hI
    obtain ⟨hB, hV, hF, hNe⟩ := hI
    have H := HopXAll.at_ ops.toList 0 i o hop (by rw [Array.getElem?_toList]; exact ho)
    rw [Nat.zero_add] at H
    have hVd : ∀ j, depOn o j = true → Vat Vl j w (vs j) := fun j hj => hV j (hdep j hj)
    have hWle : W.heap.size ≤ w.heap.size := hB.size
    -- a step that only adds memory, of an operation that is no part of a fill but maybe its value
    have grow : ∀ v w', (∀ f ∈ fl, f.1 ≠ i ∧ f.2.1 ≠ i) → Below w.heap.size w w' → Vat Vl i w' v → I (fun k => if k = i then true else L k) (fun k => if k = i then v else vs k) w' := by
      intro v w' hn hb hv
      refine ⟨hB.trans (hb.mono hWle), fun k hk => ?_, fun f hf hL1 => ?_, fun f hf f' hf' hne h1 h2 => ?_⟩
      · by_cases e : k = i
        · subst e; simpa using hv
        · simp only [e, if_false] at hk ⊢
          exact hs k (.cells Z T (0, 0)) w w' _ (Fills.of_below hb) (hV k hk)
      · have hn1 := (hn f hf).1
        have hn2 := (hn f hf).2
        simp only [hn1, hn2, if_false] at hL1 ⊢
        obtain ⟨g, g1, g2, g3, g4, g5⟩ := hF f hf hL1
        refine ⟨g, g1, g2, Nat.lt_of_lt_of_le g3 hb.size, fun h => ?_, fun h => (hb.block g g3).trans (g5 h)⟩
        obtain ⟨cs, k1, k2⟩ := g4 h
        have hne : f.2.2 ≠ i := by
          intro e
          have F := fillAt hfl hf
          obtain ⟨o', ho'⟩ : ∃ o', ops[f.2.1]? = some o' := ⟨_, Array.getElem?_eq_getElem F.lt.2⟩
          have := hcl f.2.1 o' ho' h f.2.2 (F.dep o' ho').2.1
          rw [e, hLi] at this; cases this
        simp only [hne, if_false]
        exact ⟨cs, k1, (hb.block g g3).trans k2⟩
      · simp only [(hn f hf).1, (hn f' hf').1, if_false] at h1 h2 ⊢
        exact hNe f hf f' hf' hne h1 h2
    unfold HopX at H
    cases h1 : fl.find? (fun f => f.2.1 == i) with
    | some f =>
      rw [h1] at H
      have hf := List.mem_of_find?_eq_some h1
      have hfi : f.2.1 = i := by have := List.find?_some h1; simpa using this
      have F := fillAt hfl hf
      have hd := F.dep o (by rw [hfi]; exact ho)
      have hw : wants yv o = true := by unfold wants; rw [hd.2.2]
      rw [if_pos hw]
      obtain ⟨g, g1, g2, g3, _, g5⟩ := hF f hf (hdep _ hd.1)
      have g6 := g5 (by rw [hfi]; exact hLi)
      obtain ⟨cs, hcs⟩ := hagg f hf w _ (hV _ (hdep _ hd.2.1))
      have H1 := H vs w g Z cs hB hVd g1 hcs g6 rfl
      have hfill : Fills W.heap.size (.cells Z T (0, 0)) (.cells cs T (0, 0)) w (w.setRow g cs) := ⟨⟨rfl, rfl, rfl, by simp [World.setRow], fun k hk => by omega⟩, fun k hk => by
        by_cases e : k = g
        · subst e
          exact .inr ⟨g2, g6, setRow_heap _ _ _ _ _ _ g6⟩
        · exact .inl (setRow_other _ _ _ _ e)⟩
      have fin : ∀ v w', w' = w.setRow g cs → I (fun k => if k = i then true else L k) (fun k => if k = i then v else vs k) w' := by
        rintro v w' rfl
        refine ⟨⟨hB.os, hB.tape, hB.output, Nat.le_trans hB.size (by simp [World.setRow]), fun k hk => (setRow_other _ _ _ _ (by omega)).trans (hB.block k hk)⟩, fun k hk => ?_, fun f' hf' hL1 => ?_, fun f' hf' f2 hf2 hne h1 h2 => ?_⟩
        · by_cases e : k = i
          · subst e; rw [← hfi]; exact (hVt f hf).2 _ _
          · simp only [e, if_false] at hk ⊢
            exact hs k _ w _ _ hfill (hV k hk)
        · have F' := fillAt hfl hf'
          have hn1 : f'.1 ≠ i := fun e => (F'.two f hf).2.2.1 (by rw [e, hfi])
          have hn3 : f'.2.2 ≠ i := fun e => (F.two f' hf').2.2.2.2 (by rw [e, hfi])
          simp only [hn1, hn3, if_false] at hL1 ⊢
          obtain ⟨g', a1, a2, a3, a4, a5⟩ := hF f' hf' hL1
          by_cases e : f'.2.1 = i
          · have hff : f = f' := (F.two f' hf').2.1.1 ((F.two f' hf').1.2 (by rw [hfi, e]))
            subst hff
            have hgg : g' = g := by rw [g1] at a1; injection a1 with a1; injection a1 with a1; injection a1 with a1; exact a1.symm
            subst hgg
            simp only [e, if_true]
            refine ⟨g', a1, a2, by simp [World.setRow]; exact a3, fun _ => ⟨cs, hcs, setRow_heap _ _ _ _ _ _ g6⟩, (fun h => by cases h)⟩
          · simp only [e, if_false]
            have hgg : g' ≠ g := by
              intro e2
              subst e2
              have hne : f'.1 ≠ f.1 := fun e3 => e (by have := (F'.two f hf).1.1 e3; rw [this, hfi])
              exact hNe f' hf' f hf hne hL1 (hdep _ hd.1) (by rw [a1, g1])
            refine ⟨g', a1, a2, by simp [World.setRow]; exact a3, fun h => ?_, fun h => (setRow_other _ _ _ _ hgg).trans (a5 h)⟩
            obtain ⟨cs', b1, b2⟩ := a4 h
            exact ⟨cs', b1, (setRow_other _ _ _ _ hgg).trans b2⟩
        · have hn1 : f'.1 ≠ i := fun e => ((fillAt hfl hf').two f hf).2.2.1 (by rw [e, hfi])
          have hn2 : f2.1 ≠ i := fun e => ((fillAt hfl hf2).two f hf).2.2.1 (by rw [e, hfi])
          simp only [hn1, hn2, if_false] at h1 h2 ⊢
          exact hNe f' hf' f2 hf2 hne h1 h2
      unfold runs at H1 ⊢
      split at H1 <;> first | exact fin _ _ H1 | exact Calls.mono H1 (fun e w'' ⟨v, he, hk⟩ => ⟨v, he, fin _ _ hk⟩) | exact H1.elim
    | none =>
      rw [h1] at H
      have hno2 : ∀ f ∈ fl, f.2.1 ≠ i := fun f hf e => by have := List.find?_eq_none.1 h1 f hf; simp [e] at this
      cases h2 : fl.find? (fun f => f.1 == i) with
      | some f =>
        rw [h2] at H
        have hf := List.mem_of_find?_eq_some h2
        have hfi : f.1 = i := by have := List.find?_some h2; simpa using this
        have F := fillAt hfl hf
        have hw : wants yv o = true := by unfold wants; rw [F.free o (by rw [hfi]; exact ho)]
        rw [if_pos hw]
        have H1 := H vs w
        have fin : ∀ v w', (v = .pointer (some ⟨w.heap.size, 0, none⟩) ∧ w' = w.alloc (.cells Z T)) → I (fun k => if k = i then true else L k) (fun k => if k = i then v else vs k) w' := by
          rintro v w' ⟨rfl, rfl⟩
          have hb := below_alloc (Below.refl w.heap.size w) (.cells Z T)
          refine ⟨hB.trans (hb.mono hWle), fun k hk => ?_, fun f' hf' hL1 => ?_, fun f' hf' f2 hf2 hne h1 h2 => ?_⟩
          · by_cases e : k = i
            · subst e; rw [← hfi]; exact (hVt f hf).1 _ _
            · simp only [e, if_false] at hk ⊢
              exact hs k (.cells Z T (0, 0)) w _ _ (Fills.of_below hb) (hV k hk)
          · have hn2 := hno2 f' hf'
            have hn3 : f'.2.2 ≠ i := fun e => (F.two f' hf').2.2.2.1 (by rw [e, hfi])
            simp only [hn2, hn3, if_false] at hL1 ⊢
            by_cases e : f'.1 = i
            · have hff : f = f' := (F.two f' hf').2.1.1 (by rw [hfi, e])
              subst hff
              have hLs : L f.2.1 = false := by
                cases hl : L f.2.1 with
                | false => rfl
                | true =>
                  obtain ⟨o', ho'⟩ : ∃ o', ops[f.2.1]? = some o' := ⟨_, Array.getElem?_eq_getElem F.lt.2⟩
                  have := hcl f.2.1 o' ho' hl f.1 (F.dep o' ho').1
                  rw [hfi, hLi] at this; cases this
              simp only [e, if_true]
              exact ⟨w.heap.size, rfl, hWle, by simp, (fun h => by rw [hLs] at h; cases h), fun _ => blk_new _ _⟩
            · simp only [e, if_false] at hL1 ⊢
              obtain ⟨g', a1, a2, a3, a4, a5⟩ := hF f' hf' hL1
              refine ⟨g', a1, a2, Nat.lt_of_lt_of_le a3 hb.size, fun h => ?_, fun h => (hb.block g' a3).trans (a5 h)⟩
              obtain ⟨cs', b1, b2⟩ := a4 h
              exact ⟨cs', b1, (hb.block g' a3).trans b2⟩
          · by_cases e : f'.1 = i
            · by_cases e2 : f2.1 = i
              · exact absurd (e.trans e2.symm) hne
              · simp only [e, e2, if_true, if_false] at h2 ⊢
                obtain ⟨g', a1, a2, a3, _⟩ := hF f2 hf2 h2
                rw [a1]
                intro e3
                injection e3 with e3; injection e3 with e3; injection e3 with e3
                omega
            · by_cases e2 : f2.1 = i
              · simp only [e, e2, if_true, if_false] at h1 ⊢
                obtain ⟨g', a1, a2, a3, _⟩ := hF f' hf' h1
                rw [a1]
                intro e3
                injection e3 with e3; injection e3 with e3; injection e3 with e3
                omega
              · simp only [e, e2, if_false] at h1 h2 ⊢
                exact hNe f' hf' f2 hf2 hne h1 h2
        unfold runs at H1 ⊢
        split at H1 <;> first | exact fin _ _ H1 | exact Calls.mono H1 (fun e w'' ⟨v, he, hk⟩ => ⟨v, he, fin _ _ hk⟩) | exact H1.elim
      | none =>
        rw [h2] at H
        have hno1 : ∀ f ∈ fl, f.1 ≠ i := fun f hf e => by have := List.find?_eq_none.1 h2 f hf; simp [e] at this
        have H1 := H vs w hB hVd
        by_cases hw : wants yv o = true
        · rw [if_pos hw] at H1 ⊢
          have fin : ∀ v w', (Below w.heap.size w w' ∧ Vat Vl i w' v) → I (fun k => if k = i then true else L k) (fun k => if k = i then v else vs k) w' := fun v w' h => grow v w' (fun f hf => ⟨hno1 f hf, hno2 f hf⟩) h.1 h.2
          unfold runs at H1 ⊢
          split at H1 <;> first | exact fin _ _ H1 | exact Calls.mono H1 (fun e w'' ⟨v, he, hk⟩ => ⟨v, he, fin _ _ hk⟩) | exact H1.elim
        · rw [if_neg hw] at H1 ⊢
          exact grow undef w (fun f hf => ⟨hno1 f hf, hno2 f hf⟩) (Below.refl _ _) H1
  · intro L vs w hall hI
    obtain ⟨hB, hV, hF, hNe⟩ := hI
    refine hend vs w hB (fun i hi => hV i (hall i hi)) (fun f hf => ?_) (fun f hf f' hf' hne => hNe f hf f' hf' hne (hall _ (fillAt hfl hf).lt.1) (hall _ (fillAt hfl hf').lt.1))
    have F := fillAt hfl hf
    obtain ⟨g, g1, g2, _, g4, _⟩ := hF f hf (hall _ F.lt.1)
    obtain ⟨cs, k1, k2⟩ := g4 (hall _ F.lt.2)
    exact ⟨g, cs, g1, g2, k1, k2⟩
end Go.Proofs.Yticpjidcgaaldaa

namespace Go.Proofs.Yticpjidcgaaldaa
open Go.RowKit Go.Proofs.YticpjidcgaaldaaW.PrintWords Go.Proofs.YticpjidcgaaldaaW.PrintLast Go.Proofs.YticpjidcgaaldaaW.PrintMore
set_option linter.unusedVariables false
set_option linter.unusedSimpArgs false

theorem Cur.set {cur : Array Value} {k i : Nat} {f : Nat → S59} (h : Cur cur k f) (hi : i < k) (x : S59) : Cur ((cur.setIfInBounds (2 * i) (.int .i32 x.f0)).setIfInBounds (2 * i + 1) (.int .u32 x.f1)) k (putF f i x) := by
  intro j hj
  obtain ⟨h0, h1⟩ := h j hj
  have hlt : 2 * i < cur.size := (Array.getElem?_eq_some_iff.1 (h i hi).1).1
  have hlt1 : 2 * i + 1 < cur.size := (Array.getElem?_eq_some_iff.1 (h i hi).2).1
  unfold putF
  by_cases e : j = i
  · subst e
    rw [if_pos rfl]
    exact ⟨by rw [Array.getElem?_setIfInBounds_ne (by omega), Array.getElem?_setIfInBounds_self_of_lt hlt], by rw [Array.getElem?_setIfInBounds_self_of_lt (by simp; exact hlt1)]⟩
  · rw [if_neg e]
    exact ⟨by rw [Array.getElem?_setIfInBounds_ne (by omega), Array.getElem?_setIfInBounds_ne (by omega)]; exact h0, by rw [Array.getElem?_setIfInBounds_ne (by omega), Array.getElem?_setIfInBounds_ne (by omega)]; exact h1⟩
end Go.Proofs.Yticpjidcgaaldaa

namespace Go.Proofs.Yticpjidcgaaldaa
open Go.RowKit Go.Proofs.YticpjidcgaaldaaW.PrintWords Go.Proofs.YticpjidcgaaldaaW.PrintLast Go.Proofs.YticpjidcgaaldaaW.PrintMore
set_option linter.unusedVariables false
set_option linter.unusedSimpArgs false

theorem eye_lo {P : Program} (k kl : IntKind) (t e bytes : Nat) (ht : P.underlying t = some (.slice e)) (hinfo : (P.info? e).map (fun i => (i.zero, i.size, i.bytes)) = some (some (.int k 0), 1, bytes)) (A : Option Addr) (n c j : Nat) (hj : j ≤ n) (hc : n ≤ c) :
    ∃ A' : Option Addr, (∀ W : World, (Instr.slice t (.slice A n c) (some (.int kl (j : Int))) none none).run P W = .ok (.slice A' (n - j) (c - j)) W) ∧
      (∀ (w : World) (xs : List Int), (Kd.int k).C w A n xs → (Kd.int k).C w A' (n - j) (xs.drop j)) ∧ ∀ ad', A' = some ad' → ∃ ad, A = some ad ∧ ad'.block = ad.block := by
  obtain ⟨i0, hi, hzz⟩ := Option.map_eq_some_iff.1 hinfo
  simp only [Prod.mk.injEq] at hzz
  have hel : P.elem t = e := by simp [Program.elem, ht]
  have hu : P.underlying t = some (.slice (P.elem t)) := by rw [hel]; exact ht
  refine ⟨if c = j then A else A.map (·.add j), fun W => ?_, fun w xs h => ?_, fun ad' h => ?_⟩
  · rw [run_slice_l W t A n c hu kl (j : Int) (Int.natCast_nonneg _) (by omega), hel]
    simp [sizeOf, typeInfo, hi, hzz.2.1, sliced, Result.andThen]
  · obtain rfl := h.1
    exact Kd.C_of_reads ((Kd.reads_of_C (d := (0 : Int)) h).drop_ j hj hc)
  · split at h
    · exact ⟨ad', h, rfl⟩
    · obtain ⟨ad, h1, rfl⟩ := Option.map_eq_some_iff.1 h
      exact ⟨ad, h1, by rw [add_block]⟩
theorem eye_hi {P : Program} (k kh km : IntKind) (t e bytes : Nat) (ht : P.underlying t = some (.slice e)) (hinfo : (P.info? e).map (fun i => (i.zero, i.size, i.bytes)) = some (some (.int k 0), 1, bytes)) (A : Option Addr) (n c j : Nat) (hj : j ≤ n) (hc : n ≤ c) :
    (∀ W : World, (Instr.slice t (.slice A n c) none (some (.int kh (j : Int))) (some (.int km (j : Int)))).run P W = .ok (.slice A j j) W) ∧
      (∀ (w : World) (xs : List Int), (Kd.int k).C w A n xs → (Kd.int k).C w A j (xs.take j)) := by
  obtain ⟨i0, hi, hzz⟩ := Option.map_eq_some_iff.1 hinfo
  simp only [Prod.mk.injEq] at hzz
  have hel : P.elem t = e := by simp [Program.elem, ht]
  have hu : P.underlying t = some (.slice (P.elem t)) := by rw [hel]; exact ht
  have ha : (A.map fun x => x.add 0) = A := by cases A <;> simp [Addr.add]
  refine ⟨fun W => ?_, fun w xs h => ?_⟩
  · rw [run_slice_hm W t A n c hu kh km (j : Int) (j : Int) (Int.natCast_nonneg _) (Int.le_refl _) (by omega), hel]
    simp [sizeOf, typeInfo, hi, hzz.2.1, sliced, Result.andThen, ha]
  · obtain rfl := h.1
    exact Kd.C_of_reads ((Kd.reads_of_C (d := (0 : Int)) h).take_ j hj)

def Ey (w : World) (g B : Nat) (l : List Int) (bad : Bool) : Prop := ∃ A n c, w.heap[g]? = some (.cells #[.slice A n c, .bool bad] 130 (0, 0)) ∧ (Kd.int .u8).C w A n l ∧ n ≤ c ∧ (∀ ad, A = some ad → ad.block ≠ g ∧ ad.block < B) ∧ g < B
def EyTo (w w' : World) (g B : Nat) (l : List Int) (bad : Bool) : Prop := Ey w' g B l bad ∧ KeepBut w w' g none ∧ Below g w w'
theorem eye_block (w w' : World) {A : Option Addr} {n : Nat} {l : List Int} (h : (Kd.int .u8).C w A n l) (hb : ∀ ad, A = some ad → w'.heap[ad.block]? = w.heap[ad.block]?) : (Kd.int .u8).C w' A n l := by
  refine ⟨h.1, h.2.1, fun hn => ?_⟩
  obtain ⟨ad, e, hj⟩ := h.2.2 hn
  refine ⟨ad, e, fun j p hp => ?_⟩
  obtain ⟨cs, h1, h2, h3⟩ := hj j p hp
  refine ⟨cs, h1, h2, fun i u hu => ?_⟩
  have := h3 i u hu
  have hbl : ∀ k, (ad.add k).block = ad.block := fun k => by rw [add_block]
  unfold World.cell? at this ⊢
  rw [hbl] at this ⊢
  rw [hb ad e]
  exact this
theorem Ey.below {w w' : World} {g B : Nat} {l : List Int} {bad : Bool} (h : Ey w g B l bad) (hb : Below B w w') (hB : B ≤ w.heap.size) : Ey w' g B l bad := by
  obtain ⟨A, n, c, h1, h2, h3, h4, h5⟩ := h
  exact ⟨A, n, c, (hb.block g h5).trans h1, eye_block w w' h2 (fun ad e => hb.block _ (h4 ad e).2), h3, h4, h5⟩
theorem Ey.lt {w : World} {g B : Nat} {l : List Int} {bad : Bool} (h : Ey w g B l bad) : g < w.heap.size ∧ l.length ≤ 9223372036854775807 := by
  obtain ⟨A, n, c, h1, h2, h3, h4, h5⟩ := h
  exact ⟨blk_lt h1, by rw [h2.1]; exact h2.2.1⟩
theorem EyTo.trans {w w1 w2 : World} {g B : Nat} {l1 l2 : List Int} {b1 b2 : Bool} (h : EyTo w w1 g B l1 b1) (h' : EyTo w1 w2 g B l2 b2) : EyTo w w2 g B l2 b2 := ⟨h'.1, h.2.1.trans h'.2.1 (.inl rfl), h.2.2.trans h'.2.2⟩
theorem EyTo.refl {w : World} {g B : Nat} {l : List Int} {b : Bool} (h : Ey w g B l b) : EyTo w w g B l b := ⟨h, KeepBut.refl _ _ _, Below.refl _ _⟩

set_option maxHeartbeats 1000000 in
theorem read_any (A : Option Addr) (n c : Nat) (q : List Int) (w : World) (hq : (Kd.int .u8).C w A n q) (hn : n ≤ 100000000) :
    Calls Try.prog 43 #[.slice A n c] w fun e w' => ∃ g, e = .returned (.pointer (some ⟨g, 0, none⟩)) ∧ w.heap.size ≤ g ∧ Ey w' g w'.heap.size q false ∧ Below w.heap.size w w' := by
  have KEY := Aside0.mk (clone_any A n c q w hq (by omega))
  clear hq hn
  go_enter Try.func43, Try.ntmps43
  go_wp2_with fail
  refine KEY.out.mono ?_
  rintro e w1 ⟨vo, rfl, h1, h2⟩
  obtain ⟨Q, d, hv⟩ := Kd.R_slice h1
  subst hv
  obtain ⟨r1, r2, r3⟩ := Rn_C h1
  have HLT := Aside0.mk (Kd.R_lt h1)
  have HC := Aside0.mk r3
  have HD := Aside0.mk r2
  have H2 := Aside0.mk h2
  generalize q.length = m at *
  clear h1 h2 KEY r1 r2 r3
  go_wp2_with fail
  go_ret
  refine ⟨w1.heap.size, rfl, H2.out.size, ⟨Q, m, d, blk_new _ _, Kd.C_alloc HC.out _, HD.out, fun ad e => ?_, by simp⟩, below_step H2.out (below_alloc (Below.refl _ _) _)⟩
  have := HLT.out ad.block (by rw [e]; rfl)
  simp
  omega

set_option maxHeartbeats 1000000 in
theorem wrong_any (g B : Nat) (l : List Int) (bad : Bool) (w : World) (hk : Ey w g B l bad) :
    Calls Try.prog 74 #[.pointer (some ⟨g, 0, none⟩)] w fun e w' => e = .returned (.bool bad) ∧ w' = w := by
  obtain ⟨A, n, c, h1, h2, h3, h4, h5⟩ := hk
  have c1 := blk_cell h1 1
  clear h1 h2 h3 h4 h5
  go_enter Try.func74, Try.ntmps74
  go_wp2_with fail
  go_ret
  exact ⟨rfl, rfl⟩
set_option maxHeartbeats 1000000 in
theorem efail_any (g B : Nat) (l : List Int) (bad : Bool) (w : World) (hk : Ey w g B l bad) :
    Calls Try.prog 83 #[.pointer (some ⟨g, 0, none⟩)] w fun e w' => e = .returned (.tuple #[]) ∧ EyTo w w' g B [] true := by
  obtain ⟨A, n, c, h1, h2, h3, h4, h5⟩ := hk
  have c0 := blk_cell h1 0
  have c1 := blk_cell h1 1
  have f0 := blk_frozen h1 0
  have f1 := blk_frozen h1 1
  have H1 := Aside0.mk h1
  have H5 := Aside0.mk h5
  clear h1 h2 h3 h4 h5
  go_enter Try.func83, Try.ntmps83
  go_wp2_with fail
  go_end0
  refine ⟨rfl, ⟨none, 0, 0, blk_set (blk_set H1.out 1 _) 0 _, Kd.C_nil _ _, Nat.le_refl _, ⟨(fun ad e => nomatch e), H5.out⟩⟩, ((KeepBut.refl w g none).set_ 1 _).set_ 0 _, ((Below.refl g w).setCell (Nat.le_refl _) _).setCell (Nat.le_refl _) _⟩
set_option maxRecDepth 100000 in
set_option maxHeartbeats 2000000 in
theorem take_no (g B : Nat) (l : List Int) (bad : Bool) (k : Nat) (w : World) (hk : Ey w g B l bad) (hb : bad = true ∨ l.length < k) :
    Calls Try.prog 73 #[.pointer (some ⟨g, 0, none⟩), .int .i64 k] w fun e w' => e = .returned (.slice none 0 0) ∧ EyTo w w' g B [] true := by
  have KEY := Aside0.mk (wrong_any g B l bad w hk)
  have KEY2 := Aside0.mk (efail_any g B l bad w hk)
  obtain ⟨A, n, c, h1, h2, h3, h4, h5⟩ := hk
  obtain rfl := h2.1
  have c0 := blk_cell h1 0
  have hc : bad = true ∨ (bad = false ∧ decide ((l.length : Int) < (k : Int)) = true ∧ decide (l.length < k) = true) := by
    cases bad
    · have hlk : l.length < k := by rcases hb with h | h; cases h; exact h
      exact .inr ⟨rfl, decide_eq_true (by omega), decide_eq_true hlk⟩
    · exact .inl rfl
  generalize l.length = m at *
  clear h1 h2 h3 h4 h5 hb
  rcases hc with rfl | ⟨rfl, hc, hc2⟩
  all_goals
    go_enter Try.func73, Try.ntmps73
    go_wp2_with fail
    refine KEY.out.mono ?_
    rintro e w1 ⟨rfl, rfl⟩
    clear KEY
    go_wp2_with fail
    refine KEY2.out.mono ?_
    rintro e w2 ⟨rfl, h⟩
    have H := Aside0.mk h
    clear h KEY2
    go_wp2_with fail
    go_ret
    exact ⟨rfl, H.out⟩
theorem ey_drop {w w' : World} {g B : Nat} {A' : Option Addr} {n c : Nat} {l : List Int} (h : w'.heap[g]? = some (.cells #[.slice A' n c, .bool false] 130 (0, 0))) (hC : (Kd.int .u8).C w' A' n l) (hc : n ≤ c) (hA : ∀ ad, A' = some ad → ad.block ≠ g ∧ ad.block < B) (hg : g < B) : Ey w' g B l false := ⟨A', n, c, h, hC, hc, hA, hg⟩

set_option maxRecDepth 100000 in
set_option maxHeartbeats 2000000 in
theorem take_ok (g B : Nat) (l : List Int) (k : Nat) (w : World) (hk : Ey w g B l false) (hl : k ≤ l.length) :
    Calls Try.prog 73 #[.pointer (some ⟨g, 0, none⟩), .int .i64 k] w fun e w' => ∃ A', e = .returned (.slice A' k k) ∧ (Kd.int .u8).C w' A' k (l.take k) ∧ EyTo w w' g B (l.drop k) false := by
  have KEY := Aside0.mk (wrong_any g B l false w hk)
  obtain ⟨A, n, c, h1, h2, h3, h4, h5⟩ := hk
  obtain rfl := h2.1
  have c0 := blk_cell h1 0
  have f0 := blk_frozen h1 0
  obtain ⟨A', a1, a2, a3⟩ := eye_lo (P := Try.prog) .u8 .i64 23 5 1 Try.underlying23 np_info A l.length c k hl h3
  obtain ⟨b1, b2⟩ := eye_hi (P := Try.prog) .u8 .i64 .i64 23 5 1 Try.underlying23 np_info A l.length c k hl h3
  have hkeep := (KeepBut.refl w g none).set_ 0 (.slice A' (l.length - k) (c - k))
  have H1 : Aside0 ((Kd.int .u8).C (w.setCell ⟨g, 0, none⟩ (.slice A' (l.length - k) (c - k))) A k (l.take k)) := ⟨b2 _ _ (Kd.C_keep (0 : Int) h2 hkeep (fun ad e _ => (h4 ad e).1))⟩
  have H2 : Aside0 (EyTo w (w.setCell ⟨g, 0, none⟩ (.slice A' (l.length - k) (c - k))) g B (l.drop k) false) := by
    refine ⟨⟨ey_drop (w := w) (blk_set h1 0 _) (a2 _ _ (Kd.C_keep (0 : Int) h2 hkeep (fun ad e _ => (h4 ad e).1))) (by omega) (fun ad e => ?_) h5, hkeep, (Below.refl g w).setCell (Nat.le_refl _) _⟩⟩
    obtain ⟨ad0, e0, hbk⟩ := a3 ad e
    rw [hbk]
    exact h4 ad0 e0
  have d1 : decide ((l.length : Int) < (k : Int)) = false := decide_eq_false (by omega)
  have d2 : decide (l.length < k) = false := decide_eq_false (by omega)
  have b1' := b1 w
  have a1' := a1 w
  generalize l.length = m at *
  generalize l.take k = lt at *
  generalize l.drop k = ld at *
  clear h1 h2 h3 h4 h5 hl a2 a3 b2 hkeep a1 b1
  go_enter Try.func73, Try.ntmps73
  go_wp2_with fail
  refine KEY.out.mono ?_
  rintro e w1 ⟨rfl, rfl⟩
  clear KEY
  go_wp2_with fail
  go_ret
  exact ⟨_, rfl, H1.out, H2.out⟩

theorem add0 (ad : Addr) : ad.add 0 = ad := by cases ad; simp [Addr.add]
def eByte (l : List Int) (bad : Bool) : Int × List Int × Bool := if bad = true ∨ l.length < 1 then (0, [], true) else (l.headD 0, l.drop 1, false)
theorem nz_slice (A : Option Addr) (n c : Nat) (w : World) : (binOp .neq 23 (.slice A n c) (.slice none 0 0)).run Try.prog w = .ok (.bool (!A.isNone)) w := run_neq_slice_nil_any w _ _ _ _ _ _ _ Try.underlying23

set_option maxHeartbeats 1000000 in
theorem ebyte_any (g B : Nat) (l : List Int) (bad : Bool) (w : World) (hk : Ey w g B l bad) :
    Calls Try.prog 44 #[.pointer (some ⟨g, 0, none⟩)] w fun e w' => e = .returned (.int .u8 (eByte l bad).1) ∧ EyTo w w' g B (eByte l bad).2.1 (eByte l bad).2.2 := by
  unfold eByte
  by_cases hc : bad = true ∨ l.length < 1
  · rw [if_pos hc]
    have KEY := Aside0.mk (take_no g B l bad 1 w hk hc)
    have hz := fun w => nz_slice none 0 0 w
    clear hk hc
    go_enter Try.func44, Try.ntmps44
    go_wp2_with fail
    refine KEY.out.mono ?_
    rintro e w1 ⟨rfl, h⟩
    have H := Aside0.mk h
    clear h KEY
    go_wp2_with fail
    go_ret
    exact ⟨rfl, H.out⟩
  · rw [if_neg hc]
    have hb : bad = false := by cases bad; rfl; exact absurd (.inl rfl) hc
    subst hb
    have hl : 1 ≤ l.length := by rcases Nat.lt_or_ge l.length 1 with h | h; exact absurd (.inr h) hc; exact h
    have KEY := Aside0.mk (take_ok g B l 1 w hk hl)
    have hz := fun a w => nz_slice (some a) 1 1 w
    have HL : Aside0 (l.take 1 = [l.headD 0]) := ⟨by cases l with | nil => simp at hl | cons x t => rfl⟩
    clear hk hc hl
    generalize l.headD 0 = x at *
    generalize l.drop 1 = ld at *
    go_enter Try.func44, Try.ntmps44
    go_wp2_with fail
    refine KEY.out.mono ?_
    rintro e w1 ⟨A', rfl, hC, h⟩
    rw [HL.out] at hC
    obtain ⟨ad, rfl, hx⟩ := int_at hC 0 (by simp)
    rw [List.getElem_cons_zero, add0] at hx
    have H := Aside0.mk h
    clear h KEY hC
    go_wp2_with fail
    go_ret
    exact ⟨rfl, H.out⟩

set_option maxHeartbeats 1000000 in
theorem done_any (g B : Nat) (l : List Int) (bad : Bool) (w : World) (hk : Ey w g B l bad) :
    Calls Try.prog 47 #[.pointer (some ⟨g, 0, none⟩)] w fun e w' => e = .returned (.int .i64 (if bad = true ∨ 0 < l.length then 2 else 0)) ∧ w' = w := by
  have KEY := Aside0.mk (wrong_any g B l bad w hk)
  obtain ⟨A, n, c, h1, h2, h3, h4, h5⟩ := hk
  obtain rfl := h2.1
  have c0 := blk_cell h1 0
  generalize l.length = m at *
  clear h1 h2 h3 h4 h5
  have hc : (bad = true ∧ (if bad = true ∨ 0 < m then (2 : Int) else 0) = 2) ∨ (bad = false ∧ decide ((0 : Int) < (m : Int)) = true ∧ decide (0 < m) = true ∧ (if bad = true ∨ 0 < m then (2 : Int) else 0) = 2) ∨ (bad = false ∧ decide ((0 : Int) < (m : Int)) = false ∧ decide (0 < m) = false ∧ (if bad = true ∨ 0 < m then (2 : Int) else 0) = 0) := by
    cases bad
    · rcases Nat.eq_zero_or_pos m with h | h
      · subst h; exact .inr (.inr ⟨rfl, by decide, by decide, by simp⟩)
      · exact .inr (.inl ⟨rfl, decide_eq_true (by omega), decide_eq_true h, by simp [h]⟩)
    · exact .inl ⟨rfl, by simp⟩
  rcases hc with ⟨rfl, hv⟩ | ⟨rfl, d1, d2, hv⟩ | ⟨rfl, d1, d2, hv⟩
  all_goals
    rw [hv]
    clear hv
    go_enter Try.func47, Try.ntmps47
    go_wp2_with fail
    refine KEY.out.mono ?_
    rintro e w1 ⟨rfl, rfl⟩
    clear KEY
    go_wp2_with fail
    go_ret
    exact ⟨rfl, rfl⟩
end Go.Proofs.Yticpjidcgaaldaa

namespace Go.Proofs.Yticpjidcgaaldaa
open Go.RowKit Go.Proofs.YticpjidcgaaldaaW.PrintWords Go.Proofs.YticpjidcgaaldaaW.PrintLast Go.Proofs.YticpjidcgaaldaaW.PrintMore
set_option linter.unusedVariables false
set_option linter.unusedSimpArgs false

def leN : List Int → Int
  | [] => 0
  | b :: l => b + 256 * leN l
def eFix (k : Nat) (l : List Int) (bad : Bool) : Int × List Int × Bool := if bad = true ∨ l.length < k then (0, [], true) else (leN (l.take k), l.drop k, false)

theorem EyTo.drew {w w1 : World} {g B : Nat} {l : List Int} {b : Bool} (h : EyTo w w1 g B l b) : EyTo w w1.drew g B l b :=
  ⟨h.1, h.2.1, h.2.2.drew⟩
theorem or_at (i x y : Nat) (hx : x < 2 ^ i) : x ||| y * 2 ^ i = x + 2 ^ i * y := by
  rw [Nat.or_comm, Nat.mul_comm, ← Nat.two_pow_add_eq_or_of_lt hx, Nat.add_comm]
theorem word_v (x y z t : Nat) (hx : x < 256) (hy : y < 256) (hz : z < 256) (ht : t < 256) : bits .or .u32 (bits .or .u32 (bits .or .u32 (x : Int) ((y : Int) * 256)) ((z : Int) * 65536)) ((t : Int) * 16777216) = ((x + 256 * (y + 256 * (z + 256 * t)) : Nat) : Int) := by
  rw [show (y : Int) * 256 = ((y * 2 ^ 8 : Nat) : Int) by omega, u32_or_nat _ _ (by omega) (by omega), or_at 8 x y (by omega),
    show (z : Int) * 65536 = ((z * 2 ^ 16 : Nat) : Int) by omega, u32_or_nat _ _ (by omega) (by omega), or_at 16 _ z (by omega),
    show (t : Int) * 16777216 = ((t * 2 ^ 24 : Nat) : Int) by omega, u32_or_nat _ _ (by omega) (by omega), or_at 24 _ t (by omega)]
  omega

set_option maxHeartbeats 1000000 in
theorem eword_any (g B : Nat) (l : List Int) (bad : Bool) (w : World) (hk : Ey w g B l bad) (hb : Bytes l) :
    Calls Try.prog 45 #[.pointer (some ⟨g, 0, none⟩)] w fun e w' => e = .returned (.int .u32 (eFix 4 l bad).1) ∧ EyTo w w' g B (eFix 4 l bad).2.1 (eFix 4 l bad).2.2 := by
  unfold eFix
  by_cases hc : bad = true ∨ l.length < 4
  · rw [if_pos hc]
    have KEY := Aside0.mk (take_no g B l bad 4 w hk hc)
    have hz := fun w => nz_slice none 0 0 w
    clear hk hc hb
    go_enter Try.func45, Try.ntmps45
    go_wp2_with fail
    refine KEY.out.mono ?_
    rintro e w1 ⟨rfl, h⟩
    have H := Aside0.mk h
    clear h KEY
    go_wp2_with fail
    go_ret
    exact ⟨rfl, H.out⟩
  · rw [if_neg hc]
    have hbb : bad = false := by cases bad; rfl; exact absurd (.inl rfl) hc
    subst hbb
    have hl : 4 ≤ l.length := by rcases Nat.lt_or_ge l.length 4 with h | h; exact absurd (.inr h) hc; exact h
    have KEY := Aside0.mk (take_ok g B l 4 w hk hl)
    have hz := fun a w => nz_slice (some a) 4 4 w
    obtain ⟨x, y, z, t, hxy, hx, hy, hz0, ht⟩ : ∃ x y z t : Nat, l.take 4 = [(x : Int), (y : Int), (z : Int), (t : Int)] ∧ x < 256 ∧ y < 256 ∧ z < 256 ∧ t < 256 := by
      match l, hl, hb with
      | a :: b :: c :: d :: t, _, hb =>
        have h1 := hb a (by simp)
        have h2 := hb b (by simp)
        have h3 := hb c (by simp)
        have h4 := hb d (by simp)
        exact ⟨a.toNat, b.toNat, c.toNat, d.toNat, by simp; omega, by omega, by omega, by omega, by omega⟩
    have HL := Aside0.mk hxy
    have HV : Aside0 (leN (l.take 4) = ((x + 256 * (y + 256 * (z + 256 * t)) : Nat) : Int)) := ⟨by rw [hxy]; simp [leN]⟩
    rw [HV.out]
    have hx' : (x : Int) ≤ 255 := by omega
    have hy' : (y : Int) ≤ 255 := by omega
    have hz' : (z : Int) ≤ 255 := by omega
    have ht' : (t : Int) ≤ 255 := by omega
    have HE := Aside0.mk (word_v x y z t hx hy hz0 ht)
    clear hk hc hl hb hxy hx hy hz0 ht
    generalize l.drop 4 = ld at *
    go_enter Try.func45, Try.ntmps45
    go_wp2_with fail
    refine KEY.out.mono ?_
    rintro e w1 ⟨A', rfl, hC, h⟩
    rw [HL.out] at hC
    obtain ⟨ad, rfl, c0⟩ := int_at hC 0 (by simp)
    obtain ⟨ad', e', c1⟩ := int_at hC 1 (by simp)
    obtain rfl := Option.some.inj e'
    obtain ⟨ad', e', c2⟩ := int_at hC 2 (by simp)
    obtain rfl := Option.some.inj e'
    obtain ⟨ad', e', c3⟩ := int_at hC 3 (by simp)
    obtain rfl := Option.some.inj e'
    rw [List.getElem_cons_zero, add0] at c0
    rw [List.getElem_cons_succ, List.getElem_cons_zero, show ad.add 1 = ⟨ad.block, ad.off + 1, none⟩ from rfl] at c1
    rw [List.getElem_cons_succ, List.getElem_cons_succ, List.getElem_cons_zero, show ad.add 2 = ⟨ad.block, ad.off + 2, none⟩ from rfl] at c2
    rw [List.getElem_cons_succ, List.getElem_cons_succ, List.getElem_cons_succ, List.getElem_cons_zero, show ad.add 3 = ⟨ad.block, ad.off + 3, none⟩ from rfl] at c3
    have H := Aside0.mk h
    clear h KEY hC
    go_wp2_with fail
    go_region
    go_wp2_with fail
    rw [HE.out]
    go_ret
    exact ⟨rfl, H.out.drew⟩
end Go.Proofs.Yticpjidcgaaldaa

namespace Go.Proofs.Yticpjidcgaaldaa
open Go.RowKit Go.Proofs.YticpjidcgaaldaaW.PrintWords Go.Proofs.YticpjidcgaaldaaW.PrintLast Go.Proofs.YticpjidcgaaldaaW.PrintMore
set_option linter.unusedVariables false
set_option linter.unusedSimpArgs false

def rowP (r : List Int) (i : Nat) : Int := (r.drop (9 * i)).headD 0
def rowC (r : List Int) (i : Nat) : S59 := ⟨wrap32 (leN ((r.drop (9 * i + 1)).take 4)), leN ((r.drop (9 * i + 5)).take 4)⟩
def pL (r : List Int) (k : Nat) : List Int := (List.range k).map (rowP r)
def cL (r : List Int) (k : Nat) : List S59 := (List.range k).map (rowC r)
theorem pL_succ (r : List Int) (k : Nat) : pL r (k + 1) = pL r k ++ [rowP r k] := by unfold pL; rw [List.range_succ, List.map_append]; rfl
theorem cL_succ (r : List Int) (k : Nat) : cL r (k + 1) = cL r k ++ [rowC r k] := by unfold cL; rw [List.range_succ, List.map_append]; rfl
theorem pL_len (r : List Int) (k : Nat) : (pL r k).length = k := by simp [pL]
theorem cL_len (r : List Int) (k : Nat) : (cL r k).length = k := by simp [cL]
def cntD (q : List Int) : Nat := ((q.drop 8).headD 0).toNat
def okD (q : List Int) : Bool := decide (9 ≤ q.length ∧ q.length = 9 + 9 * cntD q) && risB (-1) (pL (q.drop 9) (cntD q))
theorem leN_bd : ∀ {l : List Int}, Bytes l → 0 ≤ leN l ∧ leN l < 256 ^ l.length
  | [], _ => by simp [leN]
  | b :: l, h => by
    have h1 := h b List.mem_cons_self
    have h2 := leN_bd (l := l) (fun x hx => h x (List.mem_cons_of_mem _ hx))
    have : (256 : Int) ^ (l.length + 1) = 256 ^ l.length * 256 := by rw [Int.pow_succ]
    simp only [leN, List.length_cons]
    rw [this]
    omega
theorem leN4 {l : List Int} (h : Bytes l) : U32 (leN (l.take 4)) := by
  have h1 := leN_bd (h.take 4)
  have h2 : (256 : Int) ^ (l.take 4).length ≤ 4294967296 := by
    have : (l.take 4).length ≤ 4 := List.length_take_le _ _
    have h3 : ∀ k : Nat, k ≤ 4 → (256 : Int) ^ k ≤ 4294967296 := fun k hk => by
      match k, hk with
      | 0, _ => decide
      | 1, _ => decide
      | 2, _ => decide
      | 3, _ => decide
      | 4, _ => decide
    exact h3 _ this
  unfold U32; omega
theorem pL_bytes {r : List Int} (h : Bytes r) (k : Nat) : Bytes (pL r k) := fun x hx => by
  obtain ⟨i, _, rfl⟩ := List.mem_map.1 hx
  unfold rowP
  have := h.drop (9 * i)
  cases hd : r.drop (9 * i) with
  | nil => simp
  | cons a l => rw [hd] at this; exact this a List.mem_cons_self
theorem Bytes.head {l : List Int} (h : Bytes l) : 0 ≤ l.headD 0 ∧ l.headD 0 < 256 := by
  cases l with
  | nil => simp
  | cons a t => exact h a List.mem_cons_self
def EyP (q : List Int) (i : Nat) (l : List Int) (bad : Bool) (P : List Int) (C : List S59) : Prop :=
  P.length = i ∧ C.length = i ∧ Bytes l ∧ Bytes P ∧ ((bad = false ∧ l = q.drop (9 + 9 * i) ∧ 9 + 9 * i ≤ q.length ∧ P = pL (q.drop 9) i ∧ C = cL (q.drop 9) i) ∨ (bad = true ∧ l = [] ∧ q.length < 9 + 9 * i))
theorem eByte_b {l : List Int} {bad : Bool} (h : Bytes l) : (0 ≤ (eByte l bad).1 ∧ (eByte l bad).1 < 256) ∧ Bytes (eByte l bad).2.1 := by
  unfold eByte
  split
  · exact ⟨by simp, Bytes.nil⟩
  · exact ⟨h.head, h.drop 1⟩
theorem eFix_b {l : List Int} {bad : Bool} (k : Nat) (h : Bytes l) : Bytes (eFix k l bad).2.1 := by
  unfold eFix
  split
  · exact Bytes.nil
  · exact h.drop k
theorem eByte_bad (l : List Int) : eByte l true = (0, [], true) := by unfold eByte; rw [if_pos (.inl rfl)]
theorem eFix_bad (k : Nat) (l : List Int) : eFix k l true = (0, [], true) := by unfold eFix; rw [if_pos (.inl rfl)]
theorem eByte_good {l : List Int} (h : 1 ≤ l.length) : eByte l false = (l.headD 0, l.drop 1, false) := by unfold eByte; rw [if_neg (fun q => by rcases q with q | q; cases q; omega)]
theorem eByte_short {l : List Int} (h : l.length < 1) : eByte l false = (0, [], true) := by unfold eByte; rw [if_pos (.inr h)]
theorem eFix_good {k : Nat} {l : List Int} (h : k ≤ l.length) : eFix k l false = (leN (l.take k), l.drop k, false) := by unfold eFix; rw [if_neg (fun q => by rcases q with q | q; cases q; omega)]
theorem eFix_short {k : Nat} {l : List Int} (h : l.length < k) : eFix k l false = (0, [], true) := by unfold eFix; rw [if_pos (.inr h)]
theorem head_step {q : List Int} (hq : Bytes q) {t h n : Int} {l1 l2 l3 : List Int} {b1 b2 b3 : Bool} (e1 : eFix 4 q false = (t, l1, b1)) (e2 : eFix 4 l1 b1 = (h, l2, b2)) (e3 : eByte l2 b2 = (n, l3, b3)) :
    EyP q 0 l3 b3 [] [] ∧ 0 ≤ n ∧ n < 256 ∧ (9 ≤ q.length → t = leN (q.take 4) ∧ h = leN ((q.drop 4).take 4) ∧ n.toNat = cntD q) ∧ (q.length < 9 → n = 0) := by
  have hB3 : Bytes l3 ∧ 0 ≤ n ∧ n < 256 := by
    have h1 := eFix_b (bad := false) 4 hq
    rw [e1] at h1
    have h2 := eFix_b (bad := b1) 4 h1
    rw [e2] at h2
    have h3 := eByte_b (bad := b2) h2
    rw [e3] at h3
    exact ⟨h3.2, h3.1⟩
  by_cases h9 : 9 ≤ q.length
  · rw [eFix_good (by omega)] at e1
    simp only [Prod.mk.injEq] at e1
    obtain ⟨rfl, rfl, rfl⟩ := e1
    rw [eFix_good (by rw [List.length_drop]; omega), List.drop_drop] at e2
    simp only [Prod.mk.injEq] at e2
    obtain ⟨rfl, rfl, rfl⟩ := e2
    rw [eByte_good (by rw [List.length_drop]; omega), List.drop_drop] at e3
    simp only [Prod.mk.injEq] at e3
    obtain ⟨rfl, rfl, rfl⟩ := e3
    exact ⟨⟨rfl, rfl, hB3.1, Bytes.nil, .inl ⟨rfl, rfl, by omega, rfl, rfl⟩⟩, hB3.2.1, hB3.2.2, fun _ => ⟨rfl, rfl, rfl⟩, fun h => by omega⟩
  · have bad3 : b3 = true ∧ l3 = [] ∧ n = 0 := by
      by_cases h4 : 4 ≤ q.length
      · rw [eFix_good h4] at e1
        simp only [Prod.mk.injEq] at e1
        obtain ⟨rfl, rfl, rfl⟩ := e1
        by_cases h8 : 8 ≤ q.length
        · rw [eFix_good (by rw [List.length_drop]; omega)] at e2
          simp only [Prod.mk.injEq] at e2
          obtain ⟨rfl, rfl, rfl⟩ := e2
          rw [eByte_short (by simp; omega)] at e3
          simp only [Prod.mk.injEq] at e3
          exact ⟨e3.2.2.symm, e3.2.1.symm, e3.1.symm⟩
        · rw [eFix_short (by rw [List.length_drop]; omega)] at e2
          simp only [Prod.mk.injEq] at e2
          obtain ⟨rfl, rfl, rfl⟩ := e2
          rw [eByte_bad] at e3
          simp only [Prod.mk.injEq] at e3
          exact ⟨e3.2.2.symm, e3.2.1.symm, e3.1.symm⟩
      · rw [eFix_short (by omega)] at e1
        simp only [Prod.mk.injEq] at e1
        obtain ⟨rfl, rfl, rfl⟩ := e1
        rw [eFix_bad] at e2
        simp only [Prod.mk.injEq] at e2
        obtain ⟨rfl, rfl, rfl⟩ := e2
        rw [eByte_bad] at e3
        simp only [Prod.mk.injEq] at e3
        exact ⟨e3.2.2.symm, e3.2.1.symm, e3.1.symm⟩
    obtain ⟨rfl, rfl, rfl⟩ := bad3
    exact ⟨⟨rfl, rfl, Bytes.nil, Bytes.nil, .inr ⟨rfl, rfl, by omega⟩⟩, by omega, by omega, fun h => absurd h h9, fun _ => rfl⟩
theorem row_step {q : List Int} {i : Nat} {l : List Int} {bad : Bool} {P : List Int} {C : List S59} (H : EyP q i l bad P C) {b v m : Int} {l1 l2 l3 : List Int} {b1 b2 b3 : Bool} (e1 : eByte l bad = (b, l1, b1)) (e2 : eFix 4 l1 b1 = (v, l2, b2)) (e3 : eFix 4 l2 b2 = (m, l3, b3)) :
    EyP q (i + 1) l3 b3 (P ++ [b]) (C ++ [⟨wrap32 v, m⟩]) := by
  obtain ⟨hP, hC, hl, hBP, hs⟩ := H
  have hb : (0 ≤ b ∧ b < 256) ∧ Bytes l1 := by have := eByte_b (bad := bad) hl; rw [e1] at this; exact this
  have h2 : Bytes l2 := by have := eFix_b (bad := b1) 4 hb.2; rw [e2] at this; exact this
  have h3 : Bytes l3 := by have := eFix_b (bad := b2) 4 h2; rw [e3] at this; exact this
  refine ⟨by simp [hP], by simp [hC], h3, hBP.append (fun x hx => by obtain rfl := List.mem_singleton.1 hx; exact hb.1), ?_⟩
  rcases hs with ⟨rfl, hl0, hle, hPe, hCe⟩ | ⟨rfl, rfl, hlt⟩
  · have hlen : l.length = q.length - (9 + 9 * i) := by rw [hl0, List.length_drop]
    by_cases h9 : 9 ≤ l.length
    · left
      rw [eByte_good (by omega)] at e1
      simp only [Prod.mk.injEq] at e1
      obtain ⟨rfl, rfl, rfl⟩ := e1
      rw [eFix_good (by rw [List.length_drop]; omega), List.drop_drop] at e2
      simp only [Prod.mk.injEq] at e2
      obtain ⟨rfl, rfl, rfl⟩ := e2
      rw [eFix_good (by rw [List.length_drop]; omega), List.drop_drop] at e3
      simp only [Prod.mk.injEq] at e3
      obtain ⟨rfl, rfl, rfl⟩ := e3
      refine ⟨rfl, ?_, by omega, ?_, ?_⟩
      · rw [hl0, List.drop_drop]; congr 1
      · rw [pL_succ, hPe, hl0]
        unfold rowP
        rw [List.drop_drop]
      · rw [cL_succ, hCe, hl0]
        unfold rowC
        simp only [List.drop_drop]
        congr 4 <;> omega
    · right
      have fin : b3 = true ∧ l3 = [] := by
        by_cases h1 : 1 ≤ l.length
        · rw [eByte_good h1] at e1
          simp only [Prod.mk.injEq] at e1
          obtain ⟨rfl, rfl, rfl⟩ := e1
          by_cases h5 : 5 ≤ l.length
          · rw [eFix_good (by rw [List.length_drop]; omega)] at e2
            simp only [Prod.mk.injEq] at e2
            obtain ⟨rfl, rfl, rfl⟩ := e2
            rw [eFix_short (by simp; omega)] at e3
            simp only [Prod.mk.injEq] at e3
            exact ⟨e3.2.2.symm, e3.2.1.symm⟩
          · rw [eFix_short (by rw [List.length_drop]; omega)] at e2
            simp only [Prod.mk.injEq] at e2
            obtain ⟨rfl, rfl, rfl⟩ := e2
            rw [eFix_bad] at e3
            simp only [Prod.mk.injEq] at e3
            exact ⟨e3.2.2.symm, e3.2.1.symm⟩
        · rw [eByte_short (by omega)] at e1
          simp only [Prod.mk.injEq] at e1
          obtain ⟨rfl, rfl, rfl⟩ := e1
          rw [eFix_bad] at e2
          simp only [Prod.mk.injEq] at e2
          obtain ⟨rfl, rfl, rfl⟩ := e2
          rw [eFix_bad] at e3
          simp only [Prod.mk.injEq] at e3
          exact ⟨e3.2.2.symm, e3.2.1.symm⟩
      exact ⟨fin.1, fin.2, by omega⟩
  · right
    rw [eByte_bad] at e1
    simp only [Prod.mk.injEq] at e1
    obtain ⟨rfl, rfl, rfl⟩ := e1
    rw [eFix_bad] at e2
    simp only [Prod.mk.injEq] at e2
    obtain ⟨rfl, rfl, rfl⟩ := e2
    rw [eFix_bad] at e3
    simp only [Prod.mk.injEq] at e3
    exact ⟨e3.2.2.symm, e3.2.1.symm, by omega⟩
end Go.Proofs.Yticpjidcgaaldaa

namespace Go.Proofs.Yticpjidcgaaldaa
open Go.RowKit Go.Proofs.YticpjidcgaaldaaW.PrintWords Go.Proofs.YticpjidcgaaldaaW.PrintLast Go.Proofs.YticpjidcgaaldaaW.PrintMore
set_option linter.unusedVariables false
set_option linter.unusedSimpArgs false

theorem R_eye {α : Type} {d : Kd α} {e B ge : Nat} {w w' : World} {v : Value} {xs : List α} (h : d.R e w B (fun _ => True) v xs) (hk : KeepBut w w' ge none) (hg : ge < B) : d.R e w' B (fun _ => True) v xs :=
  Kd.R_mono (Kd.R_step (Kd.R_bound h) (fun k hk2 hlt => hk.2 k hlt (by have := hk2.2.1; omega) (by simp))) (fun _ _ => trivial)
def PSt (B0 B ge gd : Nat) (w0 w : World) (tk hs : Int) (l : List Int) (bad : Bool) (vP vC uP uC : Value) (P : List Int) (C : List S59) : Prop :=
  Ey w ge B l bad ∧ Hp B0 w0 w [(gd, .cells #[.int .u32 tk, .int .u32 hs, vP, vC] 26 (0, 0)), (B0, .cells #[.int .u32 0, .int .u32 0, .slice none 0 0, .slice none 0 0] 26 (0, 0))] [] ∧
    (Kd.int .u8).R 5 w B (fun _ => True) uP P ∧ k59.R 59 w B (fun _ => True) uC C ∧ B ≤ gd ∧ B0 ≤ ge ∧ ge < B ∧ B0 < ge
section
variable {B0 B ge gd : Nat} {w0 w w' : World} {tk hs : Int} {l l' : List Int} {bad bad' : Bool} {vP vC uP uC u : Value} {P : List Int} {C : List S59}
theorem PSt.le (h : PSt B0 B ge gd w0 w tk hs l bad vP vC uP uC P C) : B ≤ w.heap.size := Nat.le_trans h.2.2.2.2.1 (Nat.le_of_lt (h.2.1.lt (i := 0) rfl))
theorem PSt.below (h : PSt B0 B ge gd w0 w tk hs l bad vP vC uP uC P C) (hb : Below w.heap.size w w') : PSt B0 B ge gd w0 w' tk hs l bad vP vC uP uC P C :=
  ⟨h.1.below (hb.mono h.le) h.le, h.2.1.call hb, Kd.R_below h.2.2.1 hb, Kd.R_below h.2.2.2.1 hb, h.2.2.2.2⟩
theorem PSt.eye (h : PSt B0 B ge gd w0 w tk hs l bad vP vC uP uC P C) (he : EyTo w w' ge B l' bad') : PSt B0 B ge gd w0 w' tk hs l' bad' vP vC uP uC P C := by
  obtain ⟨h1, h2, h3, h4, h5, h6, h7, h8⟩ := h
  have hg := h2.lt (i := 0) rfl
  refine ⟨he.1, h2.rows (r1 := some ge) (r2 := none) (he.2.2.mono h6) ((he.2.1.2 gd hg (by omega) (by simp)).trans (h2.get (i := 0) rfl)) (fun k hk _ hn _ => he.2.1.2 k hk (fun e => hn (by rw [e])) (by simp)) (fun p hp => ?_), R_eye h3 he.2.1 h7, R_eye h4 he.2.1 h7, h5, h6, h7, h8⟩
  obtain rfl := List.mem_singleton.1 hp
  exact ⟨fun e => by injection e with e; omega, by simp⟩
theorem PSt.cellP (h : PSt B0 B ge gd w0 w tk hs l bad vP vC uP uC P C) : w.cell? ⟨gd, 2, none⟩ = some vP := blk_cell (h.2.1.get (i := 0) rfl) 2
theorem PSt.cellC (h : PSt B0 B ge gd w0 w tk hs l bad vP vC uP uC P C) : w.cell? ⟨gd, 3, none⟩ = some vC := blk_cell (h.2.1.get (i := 0) rfl) 3
theorem PSt.rowP {P' : List Int} (h : PSt B0 B ge gd w0 w tk hs l bad vP vC uP uC P C) (hg : w.grownBy w' uP.ownBlock) (hr : (Kd.int .u8).R 5 w' B (fun _ => True) u P') : PSt B0 B ge gd w0 w' tk hs l bad vP vC u uC P' C := by
  obtain ⟨h1, h2, h3, h4, h5, h6, h7, h8⟩ := h
  have hle : B ≤ w.heap.size := Nat.le_trans h5 (Nat.le_of_lt (h2.lt (i := 0) rfl))
  have hbase : ∀ k, uP.ownBlock = some k → B ≤ k := fun k hk => Kd.R_base h3 k hk
  have hb : Below B w w' := (Below.refl B w).grown hg hle hbase
  have n1 := Kd.R_ne h3 (h2.get (i := 0) rfl) (by decide)
  have n2 := Kd.R_ne h3 (h2.get (i := 1) rfl) (by decide)
  refine ⟨h1.below hb hle, h2.rows (r1 := uP.ownBlock) (r2 := none) (hb.mono (by omega)) ((hg.block gd (h2.lt (i := 0) rfl) n1).trans (h2.get (i := 0) rfl)) (fun k hk _ hn _ => hg.block k hk hn) (fun p hp => ?_), hr, Kd.R_grown2 h4 rfl hg (fun k hk => ?_), h5, h6, h7, h8⟩
  · obtain rfl := List.mem_singleton.1 hp
    exact ⟨n2, by simp⟩
  · intro e
    exact ((Kd.R_apartR h3 h4 (by decide)).1 k hk).2 (by rw [e])
theorem PSt.rowC {C' : List S59} (h : PSt B0 B ge gd w0 w tk hs l bad vP vC uP uC P C) (hg : w.grownBy w' uC.ownBlock) (hr : k59.R 59 w' B (fun _ => True) u C') : PSt B0 B ge gd w0 w' tk hs l bad vP vC uP u P C' := by
  obtain ⟨h1, h2, h3, h4, h5, h6, h7, h8⟩ := h
  have hle : B ≤ w.heap.size := Nat.le_trans h5 (Nat.le_of_lt (h2.lt (i := 0) rfl))
  have hbase : ∀ k, uC.ownBlock = some k → B ≤ k := fun k hk => Kd.R_base h4 k hk
  have hb : Below B w w' := (Below.refl B w).grown hg hle hbase
  have n1 := Kd.R_ne h4 (h2.get (i := 0) rfl) (by decide)
  have n2 := Kd.R_ne h4 (h2.get (i := 1) rfl) (by decide)
  refine ⟨h1.below hb hle, h2.rows (r1 := uC.ownBlock) (r2 := none) (hb.mono (by omega)) ((hg.block gd (h2.lt (i := 0) rfl) n1).trans (h2.get (i := 0) rfl)) (fun k hk _ hn _ => hg.block k hk hn) (fun p hp => ?_), Kd.R_grown2 h3 rfl hg (fun k hk => ?_), hr, h5, h6, h7, h8⟩
  · obtain rfl := List.mem_singleton.1 hp
    exact ⟨n2, by simp⟩
  · intro e
    exact ((Kd.R_apartR h3 h4 (by decide)).1 k (by rw [← e])).2 hk.symm
theorem PSt.setP (h : PSt B0 B ge gd w0 w tk hs l bad vP vC uP uC P C) : PSt B0 B ge gd w0 (w.setCell ⟨gd, 2, none⟩ uP) tk hs l bad uP vC uP uC P C := by
  obtain ⟨h1, h2, h3, h4, h5, h6, h7, h8⟩ := h
  have hle : B ≤ w.heap.size := Nat.le_trans h5 (Nat.le_of_lt (h2.lt (i := 0) rfl))
  have n1 := Kd.R_ne h3 (h2.get (i := 0) rfl) (by decide)
  have n2 := Kd.R_ne h4 (h2.get (i := 0) rfl) (by decide)
  exact ⟨h1.below ((Below.refl B w).setCell h5 _) hle, h2.setCell (i := 0) rfl 2 uP, Kd.R_grown2 h3 rfl (grown_setCell _ _ _ _) (fun k hk => by cases hk; exact n1), Kd.R_grown2 h4 rfl (grown_setCell _ _ _ _) (fun k hk => by cases hk; exact n2), h5, h6, h7, h8⟩
theorem PSt.setC (h : PSt B0 B ge gd w0 w tk hs l bad vP vC uP uC P C) : PSt B0 B ge gd w0 (w.setCell ⟨gd, 3, none⟩ uC) tk hs l bad vP uC uP uC P C := by
  obtain ⟨h1, h2, h3, h4, h5, h6, h7, h8⟩ := h
  have hle : B ≤ w.heap.size := Nat.le_trans h5 (Nat.le_of_lt (h2.lt (i := 0) rfl))
  have n1 := Kd.R_ne h3 (h2.get (i := 0) rfl) (by decide)
  have n2 := Kd.R_ne h4 (h2.get (i := 0) rfl) (by decide)
  exact ⟨h1.below ((Below.refl B w).setCell h5 _) hle, h2.setCell (i := 0) rfl 3 uC, Kd.R_grown2 h3 rfl (grown_setCell _ _ _ _) (fun k hk => by cases hk; exact n1), Kd.R_grown2 h4 rfl (grown_setCell _ _ _ _) (fun k hk => by cases hk; exact n2), h5, h6, h7, h8⟩
end
end Go.Proofs.Yticpjidcgaaldaa

namespace Go.Proofs.Yticpjidcgaaldaa
open Go.RowKit Go.Proofs.YticpjidcgaaldaaW.PrintWords Go.Proofs.YticpjidcgaaldaaW.PrintLast Go.Proofs.YticpjidcgaaldaaW.PrintMore
set_option linter.unusedVariables false
set_option linter.unusedSimpArgs false

theorem Hp.eye {B0 B ge g : Nat} {w0 w w' : World} {o : Obj} {l : List Int} {b : Bool} (h : Hp B0 w0 w [(g, o)] []) (he : EyTo w w' ge B l b) (h0 : B0 ≤ ge) (hne : g ≠ ge) : Hp B0 w0 w' [(g, o)] [] :=
  h.rows (r1 := some ge) (r2 := none) (he.2.2.mono h0) ((he.2.1.2 g (h.lt (i := 0) rfl) hne (by simp)).trans (h.get (i := 0) rfl)) (fun k hk _ hn _ => he.2.1.2 k hk (fun e => hn (by rw [e])) (by simp)) (fun p hp => by cases hp)
theorem OfR.belowR {b : Nat} {w w' : World} {tk hs : Int} {P : List Int} {C : List S59} {v : Value} (h : OfR b w tk hs P C v) (hb : Below w.heap.size w w') : OfR b w' tk hs P C v := by
  obtain ⟨A, c, A2, c2, e, h1, h2, h3, h4⟩ := h
  exact ⟨A, c, A2, c2, e, h1, h2, Kd.R_below h3 hb, Kd.R_below h4 hb⟩
theorem OfR.setRow9 {b g T : Nat} {w : World} {tk hs : Int} {P : List Int} {C : List S59} {v : Value} {cur cs : Array Value} (h : OfR b w tk hs P C v) (hg : w.heap[g]? = some (.cells cur T (0, 0))) (h1 : 5 ≠ T) (h2 : 59 ≠ T) : OfR b (w.setRow g cs) tk hs P C v := by
  obtain ⟨A, c, A2, c2, e, k1, k2, h3, h4⟩ := h
  exact ⟨A, c, A2, c2, e, k1, k2, Kd.R_grown2 h3 rfl (grown_setRow _ _ _) (fun k hk => by cases hk; exact Kd.R_ne h3 hg h1), Kd.R_grown2 h4 rfl (grown_setRow _ _ _) (fun k hk => by cases hk; exact Kd.R_ne h4 hg h2)⟩
def Z4 : Array Value := #[.int .u32 0, .int .u32 0, .slice none 0 0, .slice none 0 0]
def ParseR (q : List Int) (b : Nat) (w' : World) (e : Ending) : Prop :=
  if okD q = true then ∃ v, e = .returned (.tuple #[v, .int .i64 0]) ∧ OfR b w' (leN (q.take 4)) (leN ((q.drop 4).take 4)) (pL (q.drop 9) (cntD q)) (cL (q.drop 9) (cntD q)) v
  else e = .returned (.tuple #[.agg Z4, .int .i64 2])
theorem zero_delta (w : World) : (zeroValue 26).run Try.prog w = .ok (.agg #[.int .u32 0, .int .u32 0, .slice none 0 0, .slice none 0 0]) w := by kernel_rfl

set_option maxRecDepth 100000 in
set_option maxHeartbeats 16000000 in
theorem parse_any (A : Option Addr) (n c : Nat) (q : List Int) (w00 : World) (hq : (Kd.int .u8).C w00 A n q) (hn : n ≤ 100000000) (hb : Bytes q) :
    Calls Try.prog 46 #[.slice A n c] w00 fun e w' => ParseR q w00.heap.size w' e ∧ Below w00.heap.size w00 w' := by
  have H0 := Aside0.mk ((Hp.start w00).alloc (.cells #[.int .u32 0, .int .u32 0, .slice none 0 0, .slice none 0 0] 26))
  have KR := Aside0.mk (read_any A n c q (w00.alloc (.cells #[.int .u32 0, .int .u32 0, .slice none 0 0, .slice none 0 0] 26)) (Kd.C_alloc hq _) hn)
  have HBQ := Aside0.mk hb
  clear hq hn hb
  go_enter Try.func46, Try.ntmps46
  go_wp2_with fail
  refine KR.out.mono ?_
  rintro e w1 ⟨ge, rfl, hge, hEy, hb1⟩
  obtain ⟨B0, hB0⟩ : ∃ B0, w00.heap.size = B0 := ⟨_, rfl⟩
  obtain ⟨B, hB⟩ : ∃ B, w1.heap.size = B := ⟨_, rfl⟩
  rw [hB] at hEy
  have hge2 : B0 < ge := by rw [← hB0]; simp at hge; omega
  have H1 := Aside0.mk (H0.out.call hb1)
  rw [hB0] at H1
  rw [hB0]
  have HB0 := Aside0.mk hB0
  have hgB : ge < B := by obtain ⟨_, _, _, _, _, _, _, h5⟩ := hEy; exact h5
  have HGE := Aside0.mk (And.intro hge2 hgB)
  have HBW : Aside0 (B = w1.heap.size) := ⟨hB.symm⟩
  obtain ⟨⟨tt, l1, b1⟩, e1⟩ : ∃ x, eFix 4 q false = x := ⟨_, rfl⟩
  obtain ⟨⟨hh, l2, b2⟩, e2⟩ : ∃ x, eFix 4 l1 b1 = x := ⟨_, rfl⟩
  obtain ⟨⟨nn, l3, b3⟩, e3⟩ : ∃ x, eByte l2 b2 = x := ⟨_, rfl⟩
  have HHD := Aside0.mk (head_step HBQ.out e1 e2 e3)
  have hBl1 : Bytes l1 := by have := eFix_b (bad := false) 4 HBQ.out; rw [e1] at this; exact this
  have hBl2 : Bytes l2 := by have := eFix_b (bad := b1) 4 hBl1; rw [e2] at this; exact this
  have K1 := eword_any ge B q false w1 hEy HBQ.out
  rw [e1] at K1
  have KK1 := Aside0.mk K1
  have KK2 := Aside0.mk (fun (X : World) (hx : Ey X ge B l1 b1) => eword_any ge B l1 b1 X hx hBl1)
  rw [e2] at KK2
  have KK3 := Aside0.mk (fun (X : World) (hx : Ey X ge B l2 b2) => ebyte_any ge B l2 b2 X hx)
  rw [e3] at KK3
  clear hB0 hB hge hge2 hgB hEy hb1 H0 KR K1 e1 e2 e3 hBl1 hBl2
  go_wp2_with fail
  refine KK1.out.mono ?_
  rintro e w2 ⟨rfl, he2⟩
  have H2 := Aside0.mk (H1.out.eye he2 (Nat.le_of_lt HGE.out.1) (Nat.ne_of_lt HGE.out.1))
  have HE2 := Aside0.mk he2
  clear he2 H1 KK1
  go_wp2_with fail
  refine (KK2.out _ HE2.out.1).mono ?_
  rintro e w3 ⟨rfl, he3⟩
  have H3 := Aside0.mk (H2.out.eye he3 (Nat.le_of_lt HGE.out.1) (Nat.ne_of_lt HGE.out.1))
  have hsz : B ≤ w3.heap.size := by have h1 := HE2.out.2.1.1; have h2 := he3.2.1.1; have := HBW.out; omega
  have HSZ := Aside0.mk hsz
  have H4 := Aside0.mk (H3.out.alloc (.cells #[.int .u32 tt, .int .u32 hh, .slice none 0 0, .slice none 0 0] 26))
  have HE4 := Aside0.mk (he3.1.below ((below_alloc (Below.refl w3.heap.size w3) (.cells #[.int .u32 tt, .int .u32 hh, .slice none 0 0, .slice none 0 0] 26)).mono hsz) hsz)
  clear he3 hsz H2 H3 HE2 KK2
  go_wp2_with fail
  have S0 : Aside0 (PSt B0 B ge w3.heap.size w00 (w3.alloc (.cells #[.int .u32 tt, .int .u32 hh, .slice none 0 0, .slice none 0 0] 26)) tt hh l2 b2 (.slice none 0 0) (.slice none 0 0) (.slice none 0 0) (.slice none 0 0) [] []) := ⟨HE4.out, H4.out, Kd.R_nil _ _ _ _ _, Kd.R_nil _ _ _ _ _, HSZ.out, Nat.le_of_lt HGE.out.1, HGE.out.2, HGE.out.1⟩
  refine (KK3.out _ S0.out.1).mono ?_
  rintro e w5 ⟨rfl, he5⟩
  have S1 := Aside0.mk (S0.out.eye he5)
  clear he5 H4 HE4 KK3 S0 HSZ HBW
  generalize w3.heap.size = gd at *
  obtain ⟨m, hm⟩ : ∃ m : Nat, nn = (m : Int) := ⟨nn.toNat, by have := HHD.out.2.1; omega⟩
  subst hm
  have hm255 : (m : Int) ≤ 255 := by have := HHD.out.2.2.1; omega
  go_wp2_with fail
  go_loopw [17] (fun v17 wr => ∃ i : Nat, i ≤ m ∧ v17 = .int .u8 i ∧ ∃ (l : List Int) (bad : Bool) (P : List Int) (C : List S59) (vP vC : Value), Aside0 (EyP q i l bad P C ∧ PSt B0 B ge gd w00 wr tt hh l bad vP vC vP vC P C)) (fun v17 _ => m - (intOf v17).toNat)
  case atStart => exact ⟨0, by omega, rfl, l3, b3, [], [], .slice none 0 0, .slice none 0 0, ⟨HHD.out.1, S1.out⟩⟩
  case round =>
    clear S1
    obtain ⟨i, hi, rfl, l, bad, P, C, vP, vC, H⟩ := hrel
    by_cases hlt : i < m
    · have d1 : decide (i < m) = true := decide_eq_true hlt
      have hi0 : (0 : Int) ≤ i := by omega
      have him : (i : Int) < m := by omega
      have hi8 : (i : Int) < 255 := by omega
      obtain ⟨⟨b, l1, b1⟩, e1⟩ : ∃ x, eByte l bad = x := ⟨_, rfl⟩
      obtain ⟨⟨vv, l2, b2⟩, e2⟩ : ∃ x, eFix 4 l1 b1 = x := ⟨_, rfl⟩
      obtain ⟨⟨mk, l3', b3'⟩, e3⟩ : ∃ x, eFix 4 l2 b2 = x := ⟨_, rfl⟩
      have HST := Aside0.mk (row_step H.out.1 e1 e2 e3)
      have hBl : Bytes l := H.out.1.2.2.1
      have hBl1 : Bytes l1 := by have := eByte_b (bad := bad) hBl; rw [e1] at this; exact this.2
      have hBl2 : Bytes l2 := by have := eFix_b (bad := b1) 4 hBl1; rw [e2] at this; exact this
      have HLN : Aside0 (P.length ≤ 255 ∧ C.length ≤ 255) := ⟨by have h1 := H.out.1.1; have h2 := H.out.1.2.1; omega⟩
      have K1 := Aside0.mk (fun (X : World) (hx : Ey X ge B l bad) => ebyte_any ge B l bad X hx)
      have K2 := Aside0.mk (fun (X : World) (hx : Ey X ge B l1 b1) => eword_any ge B l1 b1 X hx hBl1)
      have K3 := Aside0.mk (fun (X : World) (hx : Ey X ge B l2 b2) => eword_any ge B l2 b2 X hx hBl2)
      rw [e1] at K1
      rw [e2] at K2
      rw [e3] at K3
      have S := Aside0.mk H.out.2
      clear e1 e2 e3 hBl hBl1 hBl2 H
      go_wp2_with fail
      have GW : Aside0 (∀ b', wr.heap.size ≤ b' → some b' ≠ vP.ownBlock ∧ some b' ≠ vC.ownBlock ∧ b' ≠ gd ∧ b' ≠ ge) := ⟨fun b' hb' => ⟨fun e => by have := Kd.R_lt S.out.2.2.1 _ e.symm; omega, fun e => by have := Kd.R_lt S.out.2.2.2.1 _ e.symm; omega, fun e => by have := S.out.2.1.lt (i := 0) rfl; omega, fun e => by have := S.out.le; have := HGE.out.2; omega⟩⟩
      refine regionS (W := wr)
        [fun _ v => v = .pointer (some ⟨gd, 2, none⟩),
         fun _ v => v = vP,
         fun _ v => v = .pointer (some ⟨ge, 0, none⟩),
         fun _ v => v = .int .u8 b,
         fun (w : World) (v : Value) => ∃ bl, v = .slice (some ⟨bl, 0, none⟩) 1 1 ∧ wr.heap.size ≤ bl ∧ w.heap[bl]? = some (.cells #[.int .u8 b] 5 (0, 0)),
         fun _ _ => True,
         fun _ v => v = .pointer (some ⟨gd, 2, none⟩),
         fun _ _ => True]
        [3, 5, 7]
        (fun t => match t with | 0 => fun (rs : List Value) (w : World) => PSt B0 B ge gd w00 w tt hh l bad vP vC vP vC P C | 1 => fun (rs : List Value) (w : World) => PSt B0 B ge gd w00 w tt hh l1 b1 vP vC vP vC P C | 2 => fun (rs : List Value) (w : World) => PSt B0 B ge gd w00 w tt hh l1 b1 vP vC (rs.getD 1 undef) vC (P ++ [b]) C | 3 => fun (rs : List Value) (w : World) => ∃ u, PSt B0 B ge gd w00 w tt hh l1 b1 u vC u vC (P ++ [b]) C | _ => fun _ _ => False)
        (fun _ w w' => ∀ b', wr.heap.size ≤ b' → b' < w.heap.size → w'.heap[b']? = w.heap[b']?) (fun w => wr.heap.size ≤ w.heap.size)
        (fun j =>  none)
        [(0, some 19), (1, some 20), (2, some 21), (3, some 22), (4, some 23), (5, some 24), (6, some 25), (7, none)]
        []
        (by kernel_rfl) (by kernel_rfl) (by kernel_rfl) (by kernel_rfl) (by kernel_rfl) ?z5_1c ?z5_1i ?z5_1b ?z5_1d ?z5_1g ⟨?z5_1t0, ?z5_1t1, ?z5_1t2, ?z5_1t3, ?z5_1t4, ?z5_1t5, ?z5_1t6, ?z5_1t7, trivial⟩ ⟨?z5_1o0, ?z5_1o1, ?z5_1o2, ?z5_1o3, ?z5_1o4, ?z5_1o5, ?z5_1o6, ?z5_1o7, trivial⟩ ?z5_1e
      case z5_1c => exact (Nat.le_refl _)
      case z5_1i => exact (S.out.below (below_drew (Below.refl _ _)))
      case z5_1b => intro w w' hb h; exact Nat.le_trans h hb.size
      case z5_1d =>
        intro t rs w w' hb h
        match t, h with
        | 0, h => (replace h : PSt B0 B ge gd w00 w tt hh l bad vP vC vP vC P C := h); show PSt B0 B ge gd w00 w' tt hh l bad vP vC vP vC P C; first | exact PSt.below h hb | (obtain ⟨u, h⟩ := h; exact ⟨u, PSt.below h hb⟩)
        | 1, h => (replace h : PSt B0 B ge gd w00 w tt hh l1 b1 vP vC vP vC P C := h); show PSt B0 B ge gd w00 w' tt hh l1 b1 vP vC vP vC P C; first | exact PSt.below h hb | (obtain ⟨u, h⟩ := h; exact ⟨u, PSt.below h hb⟩)
        | 2, h => (replace h : PSt B0 B ge gd w00 w tt hh l1 b1 vP vC (rs.getD 1 undef) vC (P ++ [b]) C := h); show PSt B0 B ge gd w00 w' tt hh l1 b1 vP vC (rs.getD 1 undef) vC (P ++ [b]) C; first | exact PSt.below h hb | (obtain ⟨u, h⟩ := h; exact ⟨u, PSt.below h hb⟩)
        | 3, h => (replace h : ∃ u, PSt B0 B ge gd w00 w tt hh l1 b1 u vC u vC (P ++ [b]) C := h); show ∃ u, PSt B0 B ge gd w00 w' tt hh l1 b1 u vC u vC (P ++ [b]) C; first | exact PSt.below h hb | (obtain ⟨u, h⟩ := h; exact ⟨u, PSt.below h hb⟩)
        | _ + 4, h => exact h.elim
      case z5_1g =>
        intro j hj; cases hj
      case z5_1t0 => exact StabS.const _ _ _ _
      case z5_1t1 => exact StabS.const _ _ _ _
      case z5_1t2 => exact StabS.const _ _ _ _
      case z5_1t3 => exact StabS.const _ _ _ _
      case z5_1t4 => exact ⟨(by intro w w' v hb h; (obtain ⟨bl, h1, h2, h3⟩ := h; exact ⟨bl, h1, h2, blk_below h3 hb⟩)), (by intro k hk hne w w' v ht h; (obtain ⟨bl, h1, h2, h3⟩ := h; exact ⟨bl, h1, h2, (ht bl h2 (blk_lt h3)).trans h3⟩))⟩
      case z5_1t5 => exact StabS.const _ _ _ _
      case z5_1t6 => exact StabS.const _ _ _ _
      case z5_1t7 => exact StabS.const _ _ _ _
      case z5_1o0 =>
        intro vs w t hC ht1 ht2 hS hV
        rw [if_pos (by kernel_rfl)]
        generalize hρ : rho _ _ _ vs = ρ
        have e5 : ρ (.tmp 5) = .pointer (some ⟨gd, 0, none⟩) := by rw [← hρ]; kernel_rfl
        clear hρ hV
        refine runs_val (v := .pointer (some ⟨gd, 2, none⟩)) (w' := w) ?_ ⟨Below.refl _ _, rfl⟩
        clear ht1 ht2 hS hC
        go_simp <;> (first | exact IntWalk.u64_in _ (by omega) | exact IntWalk.u32_in _ (by omega) | exact IntWalk.u16_in _ (by omega) | exact IntWalk.u8_in _ (by omega) | exact IntWalk.i64_in _ (by omega) | skip)
      case z5_1o1 =>
        intro vs w t hC ht1 ht2 hS hV
        rw [if_pos (by kernel_rfl)]
        generalize hρ : rho _ _ _ vs = ρ
        have d19 : (vs 0) = .pointer (some ⟨gd, 2, none⟩) := hV 0 (by kernel_rfl)
        have e19 : ρ (.tmp 19) = vs 0 := by rw [← hρ]; kernel_rfl
        rw [d19] at e19; clear d19
        clear hρ hV
        have ht0 : t ≤ 1 := by
          rcases Nat.lt_or_ge 1 t with hq | hq
          · exact absurd (ht1 1 5 _ hq rfl rfl) (by decide +kernel)
          · exact hq
        rcases (show t = 0 ∨ t = 1 by omega) with rfl | rfl
        · replace hS : PSt B0 B ge gd w00 w tt hh l bad vP vC vP vC P C := hS
          have c0 := PSt.cellP hS
          refine runs_val (v := vP) (w' := w) ?_ ⟨Below.refl _ _, rfl⟩
          clear ht1 ht2 hS hC
          go_simp
        · replace hS : PSt B0 B ge gd w00 w tt hh l1 b1 vP vC vP vC P C := hS
          have c0 := PSt.cellP hS
          refine runs_val (v := vP) (w' := w) ?_ ⟨Below.refl _ _, rfl⟩
          clear ht1 ht2 hS hC
          go_simp
      case z5_1o2 =>
        intro vs w t hC ht1 ht2 hS hV
        rw [if_pos (by kernel_rfl)]
        generalize hρ : rho _ _ _ vs = ρ
        have e4 : ρ (.tmp 4) = .pointer (some ⟨ge, 0, none⟩) := by rw [← hρ]; kernel_rfl
        clear hρ hV
        refine runs_val (v := .pointer (some ⟨ge, 0, none⟩)) (w' := w) ?_ ⟨Below.refl _ _, rfl⟩
        clear ht1 ht2 hS hC
        go_simp <;> (first | exact IntWalk.u64_in _ (by omega) | exact IntWalk.u32_in _ (by omega) | exact IntWalk.u16_in _ (by omega) | exact IntWalk.u8_in _ (by omega) | exact IntWalk.i64_in _ (by omega) | skip)
      case z5_1o3 =>
        intro vs w hC hS hV
        replace hS : PSt B0 B ge gd w00 w tt hh l bad vP vC vP vC P C := hS
        rw [if_pos (by kernel_rfl)]
        generalize hρ : rho _ _ _ vs = ρ
        have d21 : (vs 2) = .pointer (some ⟨ge, 0, none⟩) := hV 2 (by kernel_rfl)
        have e21 : ρ (.tmp 21) = vs 2 := by rw [← hρ]; kernel_rfl
        rw [d21] at e21; clear d21
        have ef44 : ρ (.func 44) = .func (.func 44) #[] #[] := by rw [← hρ]; rfl
        clear hρ hV
        refine runs_call (f := 44) (args := #[.pointer (some ⟨ge, 0, none⟩)]) (w' := w) ?_ ?_
        · go_simp
        · refine (K1.out w hS.1).mono ?_
          rintro e w5 ⟨rfl, he5⟩
          exact ⟨_, rfl, Nat.le_trans hC he5.2.1.1, (fun b' h1 h2 => he5.2.1.2 b' h2 (GW.out b' h1).2.2.2 (by simp)), rfl, hS.eye he5⟩
      case z5_1o4 =>
        intro vs w t hC ht1 ht2 hS hV
        rw [if_pos (by kernel_rfl)]
        generalize hρ : rho _ _ _ vs = ρ
        have d22 : (vs 3) = .int .u8 b := hV 3 (by kernel_rfl)
        have e22 : ρ (.tmp 22) = vs 3 := by rw [← hρ]; kernel_rfl
        rw [d22] at e22; clear d22
        clear hρ hV
        refine runs_val (v := .slice (some ⟨w.heap.size, 0, none⟩) 1 1) (w' := w.alloc (.cells #[.int .u8 b] 5)) ?_ ⟨below_alloc (Below.refl _ _) _, ⟨w.heap.size, rfl, hC, blk_new _ _⟩⟩
        clear ht1 ht2 hS hC
        go_simp
      case z5_1o5 =>
        intro vs w hC hS hV
        replace hS : PSt B0 B ge gd w00 w tt hh l1 b1 vP vC vP vC P C := hS
        rw [if_pos (by kernel_rfl)]
        generalize hρ : rho _ _ _ vs = ρ
        have d20 : (vs 1) = vP := hV 1 (by kernel_rfl)
        have e20 : ρ (.tmp 20) = vs 1 := by rw [← hρ]; kernel_rfl
        rw [d20] at e20; clear d20
        have d23 : (fun (w : World) (v : Value) => ∃ bl, v = .slice (some ⟨bl, 0, none⟩) 1 1 ∧ wr.heap.size ≤ bl ∧ w.heap[bl]? = some (.cells #[.int .u8 b] 5 (0, 0))) w (vs 4) := hV 4 (by kernel_rfl)
        have e23 : ρ (.tmp 23) = vs 4 := by rw [← hρ]; kernel_rfl
        obtain ⟨bl, hve23, hbl1, hbl2⟩ := d23
        clear hρ hV
        rw [hve23] at e23
        refine runs_append (Kd.int .u8) (Rr := fun x cs => cs = [.int .u8 x]) B 20 23 23 5 (.int .u8 0) 1 rfl Try.underlying23 np_info rfl (by decide) (by decide) vP P [b] (some ⟨bl, 0, none⟩) 1 1 (fun _ => True) (fun _ => False) e20 e23 hS.2.2.1 (C_of_block (k := .u8) hbl2 ⟨rfl, rfl, by decide⟩) (fun _ _ h => h) (fun _ h => h.elim) (fun _ _ => trivial) hS.le (by have := HLN.out; omega) ?_
        intro v1 w1 h1 hg1 hat
        exact ⟨Nat.le_trans hC hg1.size, (fun b' h1 h2 => hg1.block b' h2 (GW.out b' h1).1), trivial, hS.rowP hg1 h1⟩
      case z5_1o6 =>
        intro vs w t hC ht1 ht2 hS hV
        rw [if_pos (by kernel_rfl)]
        generalize hρ : rho _ _ _ vs = ρ
        have e5 : ρ (.tmp 5) = .pointer (some ⟨gd, 0, none⟩) := by rw [← hρ]; kernel_rfl
        clear hρ hV
        refine runs_val (v := .pointer (some ⟨gd, 2, none⟩)) (w' := w) ?_ ⟨Below.refl _ _, rfl⟩
        clear ht1 ht2 hS hC
        go_simp <;> (first | exact IntWalk.u64_in _ (by omega) | exact IntWalk.u32_in _ (by omega) | exact IntWalk.u16_in _ (by omega) | exact IntWalk.u8_in _ (by omega) | exact IntWalk.i64_in _ (by omega) | skip)
      case z5_1o7 =>
        intro vs w hC hS hV
        replace hS : PSt B0 B ge gd w00 w tt hh l1 b1 vP vC (vs 5) vC (P ++ [b]) C := hS
        rw [if_pos (by kernel_rfl)]
        generalize hρ : rho _ _ _ vs = ρ
        have d25 : (vs 6) = .pointer (some ⟨gd, 2, none⟩) := hV 6 (by kernel_rfl)
        have e25 : ρ (.tmp 25) = vs 6 := by rw [← hρ]; kernel_rfl
        rw [d25] at e25; clear d25
        have d24 : (fun (w : World) (v : Value) => True) w (vs 5) := hV 5 (by kernel_rfl)
        have e24 : ρ (.tmp 24) = vs 5 := by rw [← hρ]; kernel_rfl
        clear hρ hV
        have hS2 := hS.setP
        obtain ⟨A5, c5, hs5⟩ := Kd.R_slice hS.2.2.1
        have f0 := blk_frozen (hS.2.1.get (i := 0) rfl) 2
        have c0 := PSt.cellP hS
        refine runs_skip (w' := w.setCell ⟨gd, 2, none⟩ (vs 5)) ?_ ⟨Nat.le_trans hC (by simp [World.setCell]), (fun b' h1 h2 => Below.heap_setCell _ _ _ _ (GW.out b' h1).2.2.1), trivial, ⟨_, hS2⟩⟩
        rw [hs5] at e24
        rw [hs5]
        clear hS hS2 hC d24 hs5
        go_simp
      case z5_1e =>
        intro vs z1 hC hS hV
        replace hS : (fun (w : World) => ∃ u, PSt B0 B ge gd w00 w tt hh l1 b1 u vC u vC (P ++ [b]) C) z1 := hS
        have d19 : (vs 0) = .pointer (some ⟨gd, 2, none⟩) := hV 0 (Nat.le_of_ble_eq_true rfl)
        have d20 : (vs 1) = vP := hV 1 (Nat.le_of_ble_eq_true rfl)
        have d21 : (vs 2) = .pointer (some ⟨ge, 0, none⟩) := hV 2 (Nat.le_of_ble_eq_true rfl)
        have d22 : (vs 3) = .int .u8 b := hV 3 (Nat.le_of_ble_eq_true rfl)
        have d23 : (fun (w : World) (v : Value) => ∃ bl, v = .slice (some ⟨bl, 0, none⟩) 1 1 ∧ wr.heap.size ≤ bl ∧ w.heap[bl]? = some (.cells #[.int .u8 b] 5 (0, 0))) z1 (vs 4) := hV 4 (Nat.le_of_ble_eq_true rfl)
        have d24 : (fun (w : World) (v : Value) => True) z1 (vs 5) := hV 5 (Nat.le_of_ble_eq_true rfl)
        have d25 : (vs 6) = .pointer (some ⟨gd, 2, none⟩) := hV 6 (Nat.le_of_ble_eq_true rfl)
        clear hV
        simp only [putAll]
        rw [d19, d20, d21, d22, d25]
        clear d19 d20 d21 d22 d25
        generalize vs 4 = v23 at *
        generalize vs 5 = v24 at *
        generalize vs 7 = vN7
        clear vs
        simp only [Act.put, List.setIfInBounds_toArray, List.set_cons_zero, List.set_cons_succ]
        obtain ⟨vP', hS⟩ := hS
        have S1 := Aside0.mk hS
        clear hS hC d23 d24 GW S K1
        go_wp2_with fail
        refine (K2.out _ S1.out.1).mono ?_
        rintro e z2 ⟨rfl, he2⟩
        have S2 := Aside0.mk (S1.out.eye he2)
        clear he2 S1 K2
        go_wp2_with fail
        refine (K3.out _ S2.out.1).mono ?_
        rintro e z3 ⟨rfl, he3⟩
        have S3 := Aside0.mk (S2.out.eye he3)
        clear he3 S2 K3
        obtain ⟨x0, hx0⟩ : ∃ x0, wrap32 vv = x0 := ⟨_, rfl⟩
        have HX0 := Aside0.mk hx0
        rw [hx0] at HST
        clear hx0
        have S3a := Aside0.mk (S3.out.below (below_alloc (Below.refl _ _) (.cells #[.int .i32 x0, .int .u32 mk] 59)))
        have HCX := Aside0.mk (C_one_cell2 (x := ⟨x0, mk⟩) (blk_new z3 (.cells #[.int .i32 x0, .int .u32 mk] 59)))
        have HLC : Aside0 ((C.length + 1) * 8 ≤ 140737488355328) := ⟨by have := HLN.out; omega⟩
        have c3' := PSt.cellC S3.out
        have hx0 := HX0.out
        go_wp2_with (at_builtin; go_loud (refine Kd.R_append_rows k59 (Rr := fun x cs => cs = [.int .i32 x.f0, .int .u32 x.f1]) (w0 := z3.alloc (.cells #[.int .i32 x0, .int .u32 mk] 59)) B rfl (.tmp 31) (.tmp 36) 24 59 (.agg #[.int .i32 0, .int .u32 0]) 8 rfl Try.underlying24 cell_full rfl (by decide) (by decide) vC C [⟨x0, mk⟩] (some ⟨z3.heap.size, 0, none⟩) 1 1 (fun _ => True) (fun _ => False) rfl rfl S3a.out.2.2.2.1 HCX.out (fun x cs h => by rw [h]; exact k59_mkM _ _ _ x) (fun _ h => h.elim) (fun _ _ => trivial) (Below.refl _ _) S3a.out.le HLC.out ?_))
        intro v1 z4 hv4 hb4 hg4 _
        have S5 := Aside0.mk (S3a.out.rowC hg4 hv4)
        obtain ⟨A5, c5, hs5⟩ := Kd.R_slice hv4
        subst hs5
        generalize (C ++ [(⟨x0, mk⟩ : S59)]).length = cl5 at *
        clear c3' hx0 hv4 hb4 hg4 S3 S3a HCX HLC HX0
        have c3' := PSt.cellC S5.out
        have f3' := blk_frozen (S5.out.2.1.get (i := 0) rfl) 3
        have S4 : Aside0 (EyP q (i + 1) l3' b3' (P ++ [b]) (C ++ [⟨x0, mk⟩]) ∧ PSt B0 B ge gd w00 (z4.setCell ⟨gd, 3, none⟩ (.slice A5 cl5 c5)) tt hh l3' b3' vP' (.slice A5 cl5 c5) vP' (.slice A5 cl5 c5) (P ++ [b]) (C ++ [⟨x0, mk⟩])) := ⟨HST.out, S5.out.setC⟩
        clear HST S5
        go_wp2_with fail
        go_roundw
        case rel => exact ⟨i + 1, by omega, by go_num, l3', b3', P ++ [b], C ++ [⟨x0, mk⟩], vP', .slice A5 cl5 c5, S4⟩
        case measure => simp [intOf]; omega
    · obtain rfl : i = m := by omega
      have d1 : decide (i < i) = false := decide_eq_false (by omega)
      clear hlt hi
      have hfin := H.out.1
      obtain ⟨hl1, hl2, hl3, hl4, hcase⟩ := hfin
      have hcnt : 9 ≤ q.length → i = cntD q := fun h9 => by have := (HHD.out.2.2.2.1 h9).2.2; simpa using this
      have KD := Aside0.mk (done_any ge B l bad wr H.out.2.1)
      obtain ⟨A1, c1, hv1, lc1, k1⟩ := Kd.R_reads H.out.2.2.2.1
      obtain ⟨A2, c2, hv2, lc2, k2⟩ := Kd.R_reads H.out.2.2.2.2.1
      have KRT := Aside0.mk (right_any tt hh A1 A2 c1 c2 P C wr k1 lc1 k2 lc2 hl4 (by omega))
      have hRP := H.out.2.2.2.1
      have hRC := H.out.2.2.2.2.1
      have hBB := Nat.le_trans (Nat.le_of_lt HGE.out.1) (Nat.le_of_lt HGE.out.2)
      have HOF := Aside0.mk (show OfR B0 wr tt hh P C (.agg #[.int .u32 tt, .int .u32 hh, vP, vC]) from ⟨A1, c1, A2, c2, by rw [hv1, hv2], lc1, lc2, by rw [← hv1]; exact Kd.R_lower hRP hBB, by rw [← hv2]; exact Kd.R_lower hRC hBB⟩)
      have HP := Aside0.mk H.out.2.2.1
      rw [hv1, hv2] at HP HOF
      by_cases hd : bad = true ∨ 0 < l.length
      · rw [if_pos hd] at KD
        have hok : okD q = false := by
          unfold okD
          rw [Bool.and_eq_false_iff]
          left
          rw [decide_eq_false_iff_not]
          rintro ⟨h9, hq9⟩
          have hc := hcnt h9
          rcases hcase with ⟨hb, hl, hle, _⟩ | ⟨hb, hl, hlt⟩
          · rcases hd with h | h
            · rw [hb] at h; cases h
            · rw [hl, List.length_drop] at h
              omega
          · omega
        have HOK := Aside0.mk hok
        clear hcase hcnt hl1 hl2 hl3 hl4 hv1 hv2 lc1 lc2 k1 k2 hRP hRC hBB hd hok H KRT
        go_wp2_with fail
        refine KD.out.mono ?_
        rintro e w2 ⟨rfl, rfl⟩
        clear KD
        have hzd := zero_delta
        go_wp2_with (first | (refine wpList_store_row rfl 26 (.tmp 2) (.tmp 48) rfl B0 #[.int .u32 0, .int .u32 0, .slice none 0 0, .slice none 0 0] rfl rfl 26 _ (HP.out.get (i := 1) rfl) (delta_info _ _ _ _) rfl (by simp [Value.oneCell']) ?_))
        have H9 := Aside0.mk (HP.out.setRow (i := 1) rfl #[.int .u32 0, .int .u32 0, .slice none 0 0, .slice none 0 0])
        refine bodyPost_ret (results_ct rfl _ _ B0 _ #[.int .u32 0, .int .u32 0, .slice none 0 0, .slice none 0 0] (0, 0) _ rfl (H9.out.get (i := 1) rfl) Try.underlying26 rfl (delta_info _ _ _ _)) rfl ?_
        refine ⟨?_, by rw [HB0.out]; exact H9.out.bel⟩
        unfold ParseR
        rw [HOK.out]
        rfl
      · rw [if_neg hd] at KD
        have hgood : bad = false ∧ l = [] := by
          refine ⟨by cases bad; rfl; exact absurd (.inl rfl) hd, ?_⟩
          rcases l with _ | ⟨a, l⟩
          · rfl
          · exact absurd (.inr (by simp)) hd
        obtain ⟨hq9, hPe, hCe⟩ : (9 ≤ q.length ∧ q.length = 9 + 9 * cntD q) ∧ P = pL (q.drop 9) (cntD q) ∧ C = cL (q.drop 9) (cntD q) := by
          rcases hcase with ⟨hb, hl, hle, hPe, hCe⟩ | ⟨hb, hl, hlt⟩
          · have h9 : 9 ≤ q.length := by omega
            have hc := hcnt h9
            have hl0 : (q.drop (9 + 9 * i)).length = 0 := by rw [← hl, hgood.2]; rfl
            rw [List.length_drop] at hl0
            exact ⟨⟨h9, by omega⟩, by rw [← hc]; exact hPe, by rw [← hc]; exact hCe⟩
          · rw [hgood.1] at hb; cases hb
        have hok : okD q = rightB P C.length := by
          unfold okD rightB
          rw [decide_eq_true hq9, hPe, hCe, pL_len, cL_len]
          simp
        have htk := HHD.out.2.2.2.1 hq9.1
        have HOK := Aside0.mk (And.intro hok (And.intro hPe (And.intro hCe (And.intro htk.1 htk.2.1))))
        obtain ⟨β, hβ⟩ : ∃ β, rightB P C.length = β := ⟨_, rfl⟩
        rw [hβ] at KRT HOK
        subst hv1 hv2
        clear hcase hcnt hl1 hl2 hl3 hl4 lc1 lc2 k1 k2 hRP hRC hBB hd hok H hgood hq9 hPe hCe htk hβ
        generalize hpn : P.length = pn at *
        generalize hcn : C.length = cn at *
        have HN := Aside0.mk (And.intro hpn hcn)
        clear hpn hcn
        go_wp2_with fail
        refine KD.out.mono ?_
        rintro e w2 ⟨rfl, rfl⟩
        clear KD
        go_wp2_with (first | (refine wpList_load_row_g 26 (.tmp 5) rfl gd rfl rfl 26 _ (0, 0) _ (HP.out.get (i := 0) rfl) Try.underlying26 rfl (delta_info _ _ _ _) ?_))
        refine KRT.out.mono ?_
        rintro e w3 ⟨rfl, hb3⟩
        have HP3 := Aside0.mk (HP.out.call hb3)
        have HOF3 := Aside0.mk (HOF.out.belowR hb3)
        clear hb3 HP HOF KRT
        have hzd := zero_delta
        cases β with
        | false =>
          go_wp2_with (first | (refine wpList_store_row rfl 26 (.tmp 2) (.tmp 48) rfl B0 #[.int .u32 0, .int .u32 0, .slice none 0 0, .slice none 0 0] rfl rfl 26 _ (HP3.out.get (i := 1) rfl) (delta_info _ _ _ _) rfl (by simp [Value.oneCell']) ?_))
          have H9 := Aside0.mk (HP3.out.setRow (i := 1) rfl #[.int .u32 0, .int .u32 0, .slice none 0 0, .slice none 0 0])
          refine bodyPost_ret (results_ct rfl _ _ B0 _ #[.int .u32 0, .int .u32 0, .slice none 0 0, .slice none 0 0] (0, 0) _ rfl (H9.out.get (i := 1) rfl) Try.underlying26 rfl (delta_info _ _ _ _)) rfl ?_
          refine ⟨?_, by rw [HB0.out]; exact H9.out.bel⟩
          unfold ParseR
          rw [HOK.out.1]
          rfl
        | true =>
          go_wp2_with (first | (refine wpList_load_row_g 26 (.tmp 5) rfl gd rfl rfl 26 _ (0, 0) _ (HP3.out.get (i := 0) rfl) Try.underlying26 rfl (delta_info _ _ _ _) ?_) | (refine wpList_store_row rfl 26 (.tmp 2) (.tmp 49) rfl B0 #[.int .u32 tt, .int .u32 hh, .slice A1 pn c1, .slice A2 cn c2] rfl rfl 26 _ (HP3.out.get (i := 1) rfl) (delta_info _ _ _ _) rfl (by simp [Value.oneCell']) ?_))
          have H9 := Aside0.mk (HP3.out.setRow (i := 1) rfl #[.int .u32 tt, .int .u32 hh, .slice A1 pn c1, .slice A2 cn c2])
          refine bodyPost_ret (results_ct rfl _ _ B0 _ #[.int .u32 tt, .int .u32 hh, .slice A1 pn c1, .slice A2 cn c2] (0, 0) _ rfl (H9.out.get (i := 1) rfl) Try.underlying26 rfl (delta_info _ _ _ _)) rfl ?_
          refine ⟨?_, by rw [HB0.out]; exact H9.out.bel⟩
          unfold ParseR
          rw [HOK.out.1, if_pos rfl, ← HOK.out.2.1, ← HOK.out.2.2.1, ← HOK.out.2.2.2.1, ← HOK.out.2.2.2.2, HB0.out]
          exact ⟨_, rfl, HOF3.out.setRow9 (HP3.out.get (i := 1) rfl) (by decide) (by decide)⟩
end Go.Proofs.Yticpjidcgaaldaa

namespace Go.Proofs.Yticpjidcgaaldaa
open Go.RowKit Go.Proofs.YticpjidcgaaldaaW.PrintWords Go.Proofs.YticpjidcgaaldaaW.PrintLast Go.Proofs.YticpjidcgaaldaaW.PrintMore
attribute [local go_sem] max2_int min2_int max_two min_two max_three min_three max_four min_four   -- for this text's walks alone
set_option linter.unusedVariables false
set_option linter.unusedSimpArgs false

def bytes_Equal.f (l0 : List Int) (l1 : List Int) : Option (Bool) := some ((strOfNums l0).toList == (strOfNums l1).toList)
set_option maxHeartbeats 8000000 in
set_option maxRecDepth 100000 in
theorem bytes_Equal.calls (A0 : Option Addr) (c0 : Nat) (l0 : List Int) (A1 : Option Addr) (c1 : Nat) (l1 : List Int) (r : Bool) (w : World) (hr0 : Kd.C (Kd.int .u8) w A0 l0.length l0) (hc0 : l0.length ≤ c0) (hr1 : Kd.C (Kd.int .u8) w A1 l1.length l1) (hc1 : l1.length ≤ c1) (h : bytes_Equal.f l0 l1 = some r) :
    Calls Try.prog 66 #[.slice A0 l0.length c0, .slice A1 l1.length c1] w fun e w' => e = .returned (.bool r) ∧ Drawn0 w w' := by
  have HR0 := Aside0.mk hr0
  have HC0 := Aside0.mk hc0
  clear hr0 hc0
  have HR1 := Aside0.mk hr1
  have HC1 := Aside0.mk hc1
  clear hr1 hc1
  have H : (some ((strOfNums l0).toList == (strOfNums l1).toList)) = some r := h
  clear h
  obtain rfl := Option.some.inj H
  have hcv3 := Kd.C_string (P := Try.prog) (A := A0) (c := c0) Try.underlying23 Try.underlying5 Try.underlying9 HR0.out
  have hcv4 := Kd.C_string (P := Try.prog) (A := A1) (c := c1) Try.underlying23 Try.underlying5 Try.underlying9 HR1.out
  go_enter Try.func66, Try.ntmps66
  go_wp2
  go_ret
  exact ⟨by first | rfl | (simp; done) | (simp [*]; done), by repeat (first | exact Drawn0.refl _ | apply Drawn0.step)⟩

def hoodwinkref01_Cut.l0 : Nat → Int → List Int → List Int → Int → Int → Option (List Int)
  | 0, _, _, _, _, _ => none
  | k + 1, x1, x5, x8, x9, x10 => if x10 < x9 then (if 0 ≤ x10 then (if x10 < (x8.length : Int) then (if x10 < x1 then (if x5.length < 140737488355328 then (hoodwinkref01_Cut.l0 k x1 (x5 ++ [rd x8 x10]) x8 x9 (wrap64 (x10 + 1))) else (none)) else (hoodwinkref01_Cut.l0 k x1 x5 x8 x9 (wrap64 (x10 + 1)))) else (none)) else (none)) else (some x5)
def hoodwinkref01_Cut.f (k : Nat) (l0 : List Int) (a1 : Int) : Option (List Int) := hoodwinkref01_Cut.l0 k a1 ([] : List Int) l0 (l0.length : Int) 0
theorem hoodwinkref01_Cut.mono_l : ∀ k, (∀ y0 y1 y2 y3 y4, LeO (hoodwinkref01_Cut.l0 k y0 y1 y2 y3 y4) (hoodwinkref01_Cut.l0 (k + 1) y0 y1 y2 y3 y4))
  | 0 => fun _ _ _ _ _ r h => by simp [hoodwinkref01_Cut.l0] at h
  | k + 1 => by
    have ih0 := hoodwinkref01_Cut.mono_l k
    · intro y0 y1 y2 y3 y4
      unfold hoodwinkref01_Cut.l0
      repeat' first
      | (with_reducible exact ih0 _ _ _ _ _)
      | (with_reducible exact LeO.refl _)
      | (with_reducible exact LeO.none _)
      | (with_reducible refine LeO.ite ?_ ?_)
      | (with_reducible refine LeO.bind ?_ (fun _ => ?_))
      | exact ih0 _ _ _ _ _
      | exact LeO.none _
      | refine LeO.ite ?_ ?_
      | refine LeO.bind ?_ (fun _ => ?_)
theorem hoodwinkref01_Cut.mono : ∀ a0 a1 k, LeO (hoodwinkref01_Cut.f k a0 a1) (hoodwinkref01_Cut.f (k + 1) a0 a1) := by
  intro a0 a1 k
  have ih0 := hoodwinkref01_Cut.mono_l k
  unfold hoodwinkref01_Cut.f
  repeat' first
      | (with_reducible exact ih0 _ _ _ _ _)
      | (with_reducible exact LeO.refl _)
      | (with_reducible exact LeO.none _)
      | (with_reducible refine LeO.ite ?_ ?_)
      | (with_reducible refine LeO.bind ?_ (fun _ => ?_))
      | exact ih0 _ _ _ _ _
      | exact LeO.none _
      | refine LeO.ite ?_ ?_
      | refine LeO.bind ?_ (fun _ => ?_)
set_option maxHeartbeats 8000000 in
set_option maxRecDepth 100000 in
theorem hoodwinkref01_Cut.calls (k : Nat) (A0 : Option Addr) (c0 : Nat) (l0 : List Int) (a1 : Int) (r : List Int) (w : World) (hr0 : Kd.C (Kd.int .u8) w A0 l0.length l0) (hc0 : l0.length ≤ c0) (h : hoodwinkref01_Cut.f k l0 a1 = some r) :
    Calls Try.prog 12 #[.slice A0 l0.length c0, .int .i64 a1] w fun e w' => ∃ v0_ : Value, e = .returned (v0_) ∧ Kd.R (Kd.int .u8) 5 w' w.heap.size (fun _ => True) v0_ r ∧ Below w.heap.size w w' := by
  have HR0 := Aside0.mk hr0
  have HC0 := Aside0.mk hc0
  clear hr0 hc0
  have HB := Aside0.mk (Below.refl w.heap.size w)
  have H : (hoodwinkref01_Cut.l0 k a1 ([] : List Int) l0 (l0.length : Int) 0) = some r := h
  clear h
  have H' := Aside0.mk H
  clear H
  go_enter Try.func12, Try.ntmps12
  go_wp2
  go_loopg [5, 10] k (fun kq v5 v10 w' => ∃ (x5_1 : List Int) (x10_1 : Int), v10 = .int .i64 x10_1 ∧ Aside0 (hoodwinkref01_Cut.l0 kq a1 x5_1 l0 (l0.length : Int) x10_1 = some r) ∧ Aside0 (kq ≤ k) ∧ Aside0 (Kd.R (Kd.int .u8) 5 w' w.heap.size (fun _ => True) v5 x5_1) ∧ Aside0 (Below w.heap.size w w'))
  case atStart => exact ⟨(([] : List Int)), (0), (by first | rfl | (simp; done) | (simp [*]; done)), H', ⟨Nat.le_refl _⟩, ⟨by first | exact Kd.R_nil _ _ _ _ _ | exact Kd.N_nil _ _ _ _ _ | exact Kd.V_nil _ _ _ _ _ | exact Kd.Q_nil _ _ _ _ _ | exact Kd.S_nil _ _ _ _ _⟩, ⟨by repeat (first | (with_reducible first | exact HB.out | apply below_alloc | apply pw_below_drewN | apply below_drew1) | exact HB.out)⟩⟩
  case round =>
    clear H'
    try clear c1
    try clear p2
    obtain ⟨x5_1, x10_1, rfl, HA, HK1, HO_5, HB⟩ := hrel
    cases gk with
    | zero => exact absurd HA.out (by simp [hoodwinkref01_Cut.l0])
    | succ k1 =>
      have H := HA.out
      clear HA
      simp only [hoodwinkref01_Cut.l0] at H
      by_cases c3 : x10_1 < (l0.length : Int)
      · rw [if_pos c3] at H
        have c3b0 : decide (x10_1 < (l0.length : Int)) = true := decide_eq_true c3
        clear c3
        by_cases c4 : 0 ≤ x10_1
        · rw [if_pos c4] at H
          have c4b0 : decide (0 ≤ x10_1) = true := decide_eq_true c4
          clear c4
          by_cases c5 : x10_1 < (l0.length : Int)
          · rw [if_pos c5] at H
            have c5b0 : decide (x10_1 < (l0.length : Int)) = true := decide_eq_true c5
            clear c5
            by_cases c6 : x10_1 < a1
            · rw [if_pos c6] at H
              have c6b0 : decide (x10_1 < a1) = true := decide_eq_true c6
              clear c6
              by_cases c7 : x5_1.length < 140737488355328
              · rw [if_pos c7] at H
                have LMc7 := Aside0.mk c7
                clear c7
                obtain ⟨y123, hy123⟩ : ∃ y_ : List Int, y_ = (x5_1 ++ [rd l0 x10_1]) := ⟨_, rfl⟩
                replace H : (hoodwinkref01_Cut.l0 k1 a1 y123 l0 (l0.length : Int) (wrap64 (x10_1 + 1))) = some r := by first | (rw [hy123]; with_reducible exact H) | (have H2_ := (Option.bind_some _ _).symm.trans H; rw [hy123]; with_reducible exact H2_) | (have H2_ := (Option.bind_some _ _).symm.trans H; with_reducible exact H2_) | with_reducible exact H | (rw [hy123]; exact H) | exact H
                have Ny123 := Aside0.mk hy123
                clear hy123
                have H' := Aside0.mk H
                clear H
                have p122 : 0 ≤ (x10_1 : Int) := of_decide_eq_true (by first | (with_reducible assumption) | assumption)
                have q122 : x10_1 < (l0.length : Int) := of_decide_eq_true (by first | (with_reducible assumption) | assumption)
                obtain ⟨ad122, e122, hx122_0⟩ := Kd.at_int HR0.out x10_1 p122 q122
                cases e122
                replace hx122_0 := (HB.out.cell (World.block_lt_of_cell? w _ hx122_0)).trans hx122_0
                replace p122 := eq_true p122
                replace q122 := eq_true q122
                go_wp2_with (first | ((with_reducible refine gate_builtin (b := .append) (xs := #[.tmp 18, .tmp 20]) rfl ?_); at_builtin; refine Kd.R_append (Kd.int .u8) (w0 := w) w.heap.size rfl (.tmp 18) (.tmp 20) 23 5 (.int .u8 0) 1 rfl Try.underlying23 info5 rfl (by decide) (by omega) u5 x5_1 (rd l0 x10_1) [.int .u8 (rd l0 x10_1)] (fun _ => True) (fun _ => False) rfl rfl ?aP (fun _ hk => hk.elim) ?aF ?aO ?aB ?aS ?aL ?_; (case aP => exact rfl); (case aB => exact (by repeat (first | (with_reducible first | exact HB.out | apply below_alloc | apply pw_below_drewN | apply below_drew1) | exact HB.out))); (case aF => exact (fun _ _ => trivial)); (case aO => exact (by (with_reducible repeat (first | apply Kd.R_alloc | apply Kd.R_drewN | apply Kd.R_drew)); exact HO_5.out)); (case aS => exact (below_size (by repeat (first | (with_reducible first | exact HB.out | apply below_alloc | apply pw_below_drewN | apply below_drew1) | exact HB.out)))); (case aL => have := LMc7.out; omega); intro v124 w8 ho hb hg hat; rw [← Ny123.out] at ho; have n0_ := Aside0.mk (hb); have n1_ := Aside0.mk (ho); clear HB; clear HO_5; have HB := n0_; have HO125 := n1_; clear n0_ n1_; clear ho hb hg hat))
                go_roundg k1
                case measure => have := HK1.out; omega
                case rel => exact ⟨(y123), (wrap64 (x10_1 + 1)), (by first | rfl | (simp; done) | (simp [*]; done)), H', ⟨by have := HK1.out; omega⟩, ⟨by (with_reducible repeat (first | apply Kd.R_alloc | apply Kd.R_drewN | apply Kd.R_drew)); exact HO125.out⟩, ⟨by repeat (first | (with_reducible first | exact HB.out | apply below_alloc | apply pw_below_drewN | apply below_drew1) | exact HB.out)⟩⟩
              · rw [if_neg c7] at H
                exact absurd H (by simp)
            · rw [if_neg c6] at H
              have c6b0 : decide (x10_1 < a1) = false := decide_eq_false c6
              clear c6
              have H' := Aside0.mk H
              clear H
              have p122 : 0 ≤ (x10_1 : Int) := of_decide_eq_true (by first | (with_reducible assumption) | assumption)
              have q122 : x10_1 < (l0.length : Int) := of_decide_eq_true (by first | (with_reducible assumption) | assumption)
              obtain ⟨ad122, e122, hx122_0⟩ := Kd.at_int HR0.out x10_1 p122 q122
              cases e122
              replace hx122_0 := (HB.out.cell (World.block_lt_of_cell? w _ hx122_0)).trans hx122_0
              replace p122 := eq_true p122
              replace q122 := eq_true q122
              go_wp2
              go_roundg k1
              case measure => have := HK1.out; omega
              case rel => exact ⟨(x5_1), (wrap64 (x10_1 + 1)), (by first | rfl | (simp; done) | (simp [*]; done)), H', ⟨by have := HK1.out; omega⟩, ⟨by (with_reducible repeat (first | apply Kd.R_alloc | apply Kd.R_drewN | apply Kd.R_drew)); exact HO_5.out⟩, ⟨by repeat (first | (with_reducible first | exact HB.out | apply below_alloc | apply pw_below_drewN | apply below_drew1) | exact HB.out)⟩⟩
          · rw [if_neg c5] at H
            exact absurd H (by simp)
        · rw [if_neg c4] at H
          exact absurd H (by simp)
      · rw [if_neg c3] at H
        have c3b0 : decide (x10_1 < (l0.length : Int)) = false := decide_eq_false c3
        clear c3
        obtain rfl := Option.some.inj H
        go_wp2
        go_ret
        exact ⟨_, by first | rfl | (simp [errW_none, errW_some] <;> rfl) | (simp [*, errW_none, errW_some] <;> rfl), by (with_reducible repeat (first | apply Kd.R_alloc | apply Kd.R_drewN | apply Kd.R_drew)); exact HO_5.out, by repeat (first | (with_reducible first | exact HB.out | apply below_alloc | apply pw_below_drewN | apply below_drew1) | exact HB.out)⟩

def hoodwinkref07_Right.l0 : Nat → Int → List Int → Int → Int → Option (Bool)
  | 0, _, _, _, _ => none
  | k + 1, x3, x14, x15, x16 => if x16 < x15 then (if 0 ≤ x16 then (if x16 < (x14.length : Int) then (if (wrap64 (rd x14 x16)) ≤ x3 then (some false) else (if (rd x14 x16) > 47 then (some false) else (hoodwinkref07_Right.l0 k (wrap64 (rd x14 x16)) x14 x15 (wrap64 (x16 + 1))))) else (none)) else (none)) else (some true)
def hoodwinkref07_Right.f (k : Nat) (a0_0 : Int) (a0_1 : Int) (l0_2 : List Int) (l0_3 : List (S97)) : Option (Bool) := if (l0_2.length : Int) = (l0_3.length : Int) then (hoodwinkref07_Right.l0 k (-1) l0_2 (l0_2.length : Int) 0) else (some false)
set_option maxHeartbeats 8000000 in
set_option maxRecDepth 100000 in
theorem hoodwinkref07_Right.calls (k : Nat) (a0_0 : Int) (a0_1 : Int) (A0_2 : Option Addr) (c0_2 : Nat) (l0_2 : List Int) (A0_3 : Option Addr) (c0_3 : Nat) (l0_3 : List (S97)) (r : Bool) (w : World) (hr0_2 : Kd.C (Kd.int .u8) w A0_2 l0_2.length l0_2) (hc0_2 : l0_2.length ≤ c0_2) (hr0_3 : Kd.C k97 w A0_3 l0_3.length l0_3) (hc0_3 : l0_3.length ≤ c0_3) (h : hoodwinkref07_Right.f k a0_0 a0_1 l0_2 l0_3 = some r) :
    Calls Try.prog 42 #[.agg #[.int .u32 a0_0, .int .u32 a0_1, .slice A0_2 l0_2.length c0_2, .slice A0_3 l0_3.length c0_3]] w fun e w' => e = .returned (.bool r) ∧ Below w.heap.size w w' := by
  have hu37 := Try.underlying37
  have HR0_2 := Aside0.mk hr0_2
  have HC0_2 := Aside0.mk hc0_2
  clear hr0_2 hc0_2
  have HR0_3 := Aside0.mk hr0_3
  have HC0_3 := Aside0.mk hc0_3
  clear hr0_3 hc0_3
  have HB := Aside0.mk (Below.refl w.heap.size w)
  have H : (if (l0_2.length : Int) = (l0_3.length : Int) then (hoodwinkref07_Right.l0 k (-1) l0_2 (l0_2.length : Int) 0) else (some false)) = some r := h
  clear h
  by_cases c2 : (l0_2.length : Int) = (l0_3.length : Int)
  · rw [if_pos c2] at H
    have c2b0 : ((l0_2.length : Int) == (l0_3.length : Int)) = true := beq_iff_eq.mpr c2
    have c2b1 : ((l0_2.length : Int) != (l0_3.length : Int)) = false := bne_eq_false_iff_eq.mpr c2
    have c2b2 : (l0_2.length == l0_3.length) = true := by first | simpa using c2 | (simp at c2 ⊢; omega)
    clear c2
    have H' := Aside0.mk H
    clear H
    go_enter Try.func42, Try.ntmps42
    go_wp2_with (first | ((with_reducible refine gate_dst (N := 1) rfl ?_); refine box_event ?hg (N := 1) ?hd (cs := #[.int .u32 a0_0, .int .u32 a0_1, .slice A0_2 l0_2.length c0_2, .slice A0_3 l0_3.length c0_3]) (t := 37) ?hr ?_; (case hd => rfl); (case hg => rfl); (case hr => first | (go_simp; done) | (go_simp; rfl)); intro gb149 hg w3 hbox hb; have n0_ := Aside0.mk (below_step (by repeat (first | (with_reducible first | exact HB.out | apply below_alloc | apply pw_below_drewN | apply below_drew1) | exact HB.out)) hb); have n1_ := Aside0.mk (hbox); have n2_ := Aside0.mk ((by rw [hg]; exact (below_size (by repeat (first | (with_reducible first | exact HB.out | apply below_alloc | apply pw_below_drewN | apply below_drew1) | exact HB.out))) : w.heap.size ≤ gb149)); have n3_ := Aside0.mk ((by rw [hg]; exact (below_size (by repeat (first | (with_reducible first | exact HB.out | apply below_alloc | apply pw_below_drewN | apply below_drew1) | exact HB.out))) : w.heap.size ≤ gb149)); clear HB; have HB := n0_; have BK149 := n1_; have GW149 := n2_; have GE149 := n3_; clear n0_ n1_ n2_ n3_; clear hb hbox hg; have hcz4_0 : w3.cell? ⟨gb149, 0, none⟩ = some (.int .u32 a0_0) := (blk_cell BK149.out 0).trans rfl; have hcz4_1 : w3.cell? ⟨gb149, 1, none⟩ = some (.int .u32 a0_1) := (blk_cell BK149.out 1).trans rfl; have hcz4_2 : w3.cell? ⟨gb149, 2, none⟩ = some (.slice A0_2 l0_2.length c0_2) := (blk_cell BK149.out 2).trans rfl; have hcz4_3 : w3.cell? ⟨gb149, 3, none⟩ = some (.slice A0_3 l0_3.length c0_3) := (blk_cell BK149.out 3).trans rfl; have hfz4_0 := blk_frozen BK149.out 0; have hfz4_1 := blk_frozen BK149.out 1; have hfz4_2 := blk_frozen BK149.out 2; have hfz4_3 := blk_frozen BK149.out 3))
    go_loopg [3, 16] k (fun kq v3 v16 w' => ∃ (x3_1 : Int) (x16_1 : Int), v3 = .int .i64 x3_1 ∧ v16 = .int .i64 x16_1 ∧ Aside0 (hoodwinkref07_Right.l0 kq x3_1 l0_2 (l0_2.length : Int) x16_1 = some r) ∧ Aside0 (kq ≤ k) ∧ Aside0 (w'.heap[gb149]? = some (.cells #[.int .u32 a0_0, .int .u32 a0_1, (.slice A0_2 l0_2.length c0_2), (.slice A0_3 l0_3.length c0_3)] 37 (0, 0))) ∧ Aside0 (Below w.heap.size w w'))
    case atStart => exact ⟨((-1)), (0), (by first | rfl | (simp; done) | (simp [*]; done)), (by first | rfl | (simp; done) | (simp [*]; done)), H', ⟨Nat.le_refl _⟩, ⟨by (with_reducible repeat (first | refine blk_drewN ?_ _ | refine blk_drew ?_ | refine blk_alloc ?_ _)); exact BK149.out⟩, ⟨by repeat (first | (with_reducible first | exact HB.out | apply below_alloc | apply pw_below_drewN | apply below_drew1 | refine below_set ?_ GE149.out) | exact HB.out)⟩⟩
    case round =>
      clear H'
      try clear c2
      try clear c2b0
      try clear c2b1
      try clear c2b2
      try clear p2
      try clear c4
      try clear hcz4_0
      try clear hcz4_1
      try clear hcz4_2
      try clear hcz4_3
      try clear hfz4_0
      try clear hfz4_1
      try clear hfz4_2
      try clear hfz4_3
      obtain ⟨x3_1, x16_1, rfl, rfl, HA, HK1, BK149, HB⟩ := hrel
      cases gk with
      | zero => exact absurd HA.out (by simp [hoodwinkref07_Right.l0])
      | succ k1 =>
        have H := HA.out
        clear HA
        simp only [hoodwinkref07_Right.l0] at H
        by_cases c5 : x16_1 < (l0_2.length : Int)
        · rw [if_pos c5] at H
          have c5b0 : decide (x16_1 < (l0_2.length : Int)) = true := decide_eq_true c5
          clear c5
          by_cases c6 : 0 ≤ x16_1
          · rw [if_pos c6] at H
            have c6b0 : decide (0 ≤ x16_1) = true := decide_eq_true c6
            clear c6
            by_cases c7 : x16_1 < (l0_2.length : Int)
            · rw [if_pos c7] at H
              have c7b0 : decide (x16_1 < (l0_2.length : Int)) = true := decide_eq_true c7
              clear c7
              by_cases c8 : (wrap64 (rd l0_2 x16_1)) ≤ x3_1
              · rw [if_pos c8] at H
                have c8b0 : decide ((wrap64 (rd l0_2 x16_1)) ≤ x3_1) = true := decide_eq_true c8
                clear c8
                obtain rfl := Option.some.inj H
                have p150 : 0 ≤ (x16_1 : Int) := of_decide_eq_true (by first | (with_reducible assumption) | assumption)
                have q150 : x16_1 < (l0_2.length : Int) := of_decide_eq_true (by first | (with_reducible assumption) | assumption)
                obtain ⟨ad150, e150, hx150_0⟩ := Kd.at_int HR0_2.out x16_1 p150 q150
                cases e150
                replace hx150_0 := (HB.out.cell (World.block_lt_of_cell? w _ hx150_0)).trans hx150_0
                replace p150 := eq_true p150
                replace q150 := eq_true q150
                go_wp2
                go_ret
                exact ⟨by first | rfl | (simp [errW_none, errW_some] <;> rfl) | (simp [*, errW_none, errW_some] <;> rfl), by repeat (first | (with_reducible first | exact HB.out | apply below_alloc | apply pw_below_drewN | apply below_drew1 | refine below_set ?_ GE149.out) | exact HB.out)⟩
              · rw [if_neg c8] at H
                have c8b0 : decide ((wrap64 (rd l0_2 x16_1)) ≤ x3_1) = false := decide_eq_false c8
                clear c8
                by_cases c9 : (rd l0_2 x16_1) > 47
                · rw [if_pos c9] at H
                  have c9b0 : decide (47 < (rd l0_2 x16_1)) = true := decide_eq_true c9
                  clear c9
                  obtain rfl := Option.some.inj H
                  have p150 : 0 ≤ (x16_1 : Int) := of_decide_eq_true (by first | (with_reducible assumption) | assumption)
                  have q150 : x16_1 < (l0_2.length : Int) := of_decide_eq_true (by first | (with_reducible assumption) | assumption)
                  obtain ⟨ad150, e150, hx150_0⟩ := Kd.at_int HR0_2.out x16_1 p150 q150
                  cases e150
                  replace hx150_0 := (HB.out.cell (World.block_lt_of_cell? w _ hx150_0)).trans hx150_0
                  replace p150 := eq_true p150
                  replace q150 := eq_true q150
                  go_wp2
                  go_ret
                  exact ⟨by first | rfl | (simp [errW_none, errW_some] <;> rfl) | (simp [*, errW_none, errW_some] <;> rfl), by repeat (first | (with_reducible first | exact HB.out | apply below_alloc | apply pw_below_drewN | apply below_drew1 | refine below_set ?_ GE149.out) | exact HB.out)⟩
                · rw [if_neg c9] at H
                  have c9b0 : decide (47 < (rd l0_2 x16_1)) = false := decide_eq_false c9
                  clear c9
                  have H' := Aside0.mk H
                  clear H
                  have p150 : 0 ≤ (x16_1 : Int) := of_decide_eq_true (by first | (with_reducible assumption) | assumption)
                  have q150 : x16_1 < (l0_2.length : Int) := of_decide_eq_true (by first | (with_reducible assumption) | assumption)
                  obtain ⟨ad150, e150, hx150_0⟩ := Kd.at_int HR0_2.out x16_1 p150 q150
                  cases e150
                  replace hx150_0 := (HB.out.cell (World.block_lt_of_cell? w _ hx150_0)).trans hx150_0
                  replace p150 := eq_true p150
                  replace q150 := eq_true q150
                  go_wp2
                  go_roundg k1
                  case measure => have := HK1.out; omega
                  case rel => exact ⟨(wrap64 (rd l0_2 x16_1)), (wrap64 (x16_1 + 1)), (by first | rfl | (simp; done) | (simp [*]; done)), (by first | rfl | (simp; done) | (simp [*]; done)), H', ⟨by have := HK1.out; omega⟩, ⟨by (with_reducible repeat (first | refine blk_drewN ?_ _ | refine blk_drew ?_ | refine blk_alloc ?_ _)); exact BK149.out⟩, ⟨by repeat (first | (with_reducible first | exact HB.out | apply below_alloc | apply pw_below_drewN | apply below_drew1 | refine below_set ?_ GE149.out) | exact HB.out)⟩⟩
            · rw [if_neg c7] at H
              exact absurd H (by simp)
          · rw [if_neg c6] at H
            exact absurd H (by simp)
        · rw [if_neg c5] at H
          have c5b0 : decide (x16_1 < (l0_2.length : Int)) = false := decide_eq_false c5
          clear c5
          obtain rfl := Option.some.inj H
          go_wp2
          go_ret
          exact ⟨by first | rfl | (simp [errW_none, errW_some] <;> rfl) | (simp [*, errW_none, errW_some] <;> rfl), by repeat (first | (with_reducible first | exact HB.out | apply below_alloc | apply pw_below_drewN | apply below_drew1 | refine below_set ?_ GE149.out) | exact HB.out)⟩
  · rw [if_neg c2] at H
    have c2b0 : ((l0_2.length : Int) == (l0_3.length : Int)) = false := beq_eq_false_iff_ne.mpr c2
    have c2b1 : ((l0_2.length : Int) != (l0_3.length : Int)) = true := bne_iff_ne.mpr c2
    have c2b2 : (l0_2.length == l0_3.length) = false := by first | simpa using c2 | (simp at c2 ⊢; omega)
    obtain rfl := Option.some.inj H
    go_enter Try.func42, Try.ntmps42
    go_wp2_with (first | ((with_reducible refine gate_dst (N := 1) rfl ?_); refine box_event ?hg (N := 1) ?hd (cs := #[.int .u32 a0_0, .int .u32 a0_1, .slice A0_2 l0_2.length c0_2, .slice A0_3 l0_3.length c0_3]) (t := 37) ?hr ?_; (case hd => rfl); (case hg => rfl); (case hr => first | (go_simp; done) | (go_simp; rfl)); intro gb149 hg w10 hbox hb; have n0_ := Aside0.mk (below_step (by repeat (first | (with_reducible first | exact HB.out | apply below_alloc | apply pw_below_drewN | apply below_drew1) | exact HB.out)) hb); have n1_ := Aside0.mk (hbox); have n2_ := Aside0.mk ((by rw [hg]; exact (below_size (by repeat (first | (with_reducible first | exact HB.out | apply below_alloc | apply pw_below_drewN | apply below_drew1) | exact HB.out))) : w.heap.size ≤ gb149)); have n3_ := Aside0.mk ((by rw [hg]; exact (below_size (by repeat (first | (with_reducible first | exact HB.out | apply below_alloc | apply pw_below_drewN | apply below_drew1) | exact HB.out))) : w.heap.size ≤ gb149)); clear HB; have HB := n0_; have BK149 := n1_; have GW149 := n2_; have GE149 := n3_; clear n0_ n1_ n2_ n3_; clear hb hbox hg; have hcz11_0 : w10.cell? ⟨gb149, 0, none⟩ = some (.int .u32 a0_0) := (blk_cell BK149.out 0).trans rfl; have hcz11_1 : w10.cell? ⟨gb149, 1, none⟩ = some (.int .u32 a0_1) := (blk_cell BK149.out 1).trans rfl; have hcz11_2 : w10.cell? ⟨gb149, 2, none⟩ = some (.slice A0_2 l0_2.length c0_2) := (blk_cell BK149.out 2).trans rfl; have hcz11_3 : w10.cell? ⟨gb149, 3, none⟩ = some (.slice A0_3 l0_3.length c0_3) := (blk_cell BK149.out 3).trans rfl; have hfz11_0 := blk_frozen BK149.out 0; have hfz11_1 := blk_frozen BK149.out 1; have hfz11_2 := blk_frozen BK149.out 2; have hfz11_3 := blk_frozen BK149.out 3))
    go_ret
    exact ⟨by first | rfl | (simp [errW_none, errW_some] <;> rfl) | (simp [*, errW_none, errW_some] <;> rfl), by repeat (first | (with_reducible first | exact HB.out | apply below_alloc | apply pw_below_drewN | apply below_drew1 | refine below_set ?_ GE149.out) | exact HB.out)⟩

def hoodwinkref01_Value.l0 : Nat → List Int → Int → Int → Option (Int)
  | 0, _, _, _ => none
  | k + 1, x0, x3, x4 => if x4 ≥ 0 then (if 0 ≤ x4 then (if x4 < (x0.length : Int) then (hoodwinkref01_Value.l0 k x0 (IntKind.u64.wrap ((IntKind.u64.wrap (256 * x3)) + (IntKind.u64.wrap (rd x0 x4)))) (wrap64 (x4 - 1))) else (none)) else (none)) else (some x3)
def hoodwinkref01_Value.f (k : Nat) (l0 : List Int) : Option (Int) := hoodwinkref01_Value.l0 k l0 0 (wrap64 ((l0.length : Int) - 1))
set_option maxHeartbeats 8000000 in
set_option maxRecDepth 100000 in
theorem hoodwinkref01_Value.calls (k : Nat) (A0 : Option Addr) (c0 : Nat) (l0 : List Int) (r : Int) (w : World) (hr0 : Kd.C (Kd.int .u8) w A0 l0.length l0) (hc0 : l0.length ≤ c0) (h : hoodwinkref01_Value.f k l0 = some r) :
    Calls Try.prog 51 #[.slice A0 l0.length c0] w fun e w' => e = .returned (.int .u64 r) ∧ Drawn0 w w' := by
  have HR0 := Aside0.mk hr0
  have HC0 := Aside0.mk hc0
  clear hr0 hc0
  have H : (hoodwinkref01_Value.l0 k l0 0 (wrap64 ((l0.length : Int) - 1))) = some r := h
  clear h
  have H' := Aside0.mk H
  clear H
  go_enter Try.func51, Try.ntmps51
  go_wp2
  go_loopg [3, 4] k (fun kq v3 v4 w' => ∃ (x3_1 : Int) (x4_1 : Int), v3 = .int .u64 x3_1 ∧ v4 = .int .i64 x4_1 ∧ Aside0 (hoodwinkref01_Value.l0 kq l0 x3_1 x4_1 = some r) ∧ Aside0 (kq ≤ k) ∧ Drawn0 w w')
  case atStart => exact ⟨(0), (wrap64 ((l0.length : Int) - 1)), (by first | rfl | (simp; done) | (simp [*]; done)), (by first | rfl | (simp; done) | (simp [*]; done)), H', ⟨Nat.le_refl _⟩, by repeat (first | exact Drawn0.refl _ | apply Drawn0.step)⟩
  case round =>
    clear H'
    obtain ⟨x3_1, x4_1, rfl, rfl, HA, HK1, ⟨m1, rfl⟩⟩ := hrel
    cases gk with
    | zero => exact absurd HA.out (by simp [hoodwinkref01_Value.l0])
    | succ k1 =>
      have H := HA.out
      clear HA
      simp only [hoodwinkref01_Value.l0] at H
      by_cases c2 : x4_1 ≥ 0
      · rw [if_pos c2] at H
        have c2b0 : decide (0 ≤ x4_1) = true := decide_eq_true c2
        clear c2
        by_cases c3 : 0 ≤ x4_1
        · rw [if_pos c3] at H
          have c3b0 : decide (0 ≤ x4_1) = true := decide_eq_true c3
          clear c3
          by_cases c4 : x4_1 < (l0.length : Int)
          · rw [if_pos c4] at H
            have c4b0 : decide (x4_1 < (l0.length : Int)) = true := decide_eq_true c4
            clear c4
            have H' := Aside0.mk H
            clear H
            have p247 : 0 ≤ (x4_1 : Int) := of_decide_eq_true (by first | (with_reducible assumption) | assumption)
            have q247 : x4_1 < (l0.length : Int) := of_decide_eq_true (by first | (with_reducible assumption) | assumption)
            obtain ⟨ad247, e247, hx247_0⟩ := Kd.at_int HR0.out x4_1 p247 q247
            cases e247
            replace p247 := eq_true p247
            replace q247 := eq_true q247
            go_wp2
            go_roundg k1
            case measure => have := HK1.out; omega
            case rel => exact ⟨(IntKind.u64.wrap ((IntKind.u64.wrap (256 * x3_1)) + (IntKind.u64.wrap (rd l0 x4_1)))), (wrap64 (x4_1 - 1)), (by first | rfl | (simp; done) | (simp [*]; done)), (by first | rfl | (simp; done) | (simp [*]; done)), H', ⟨by have := HK1.out; omega⟩, by repeat (first | exact Drawn0.refl _ | apply Drawn0.step)⟩
          · rw [if_neg c4] at H
            exact absurd H (by simp)
        · rw [if_neg c3] at H
          exact absurd H (by simp)
      · rw [if_neg c2] at H
        have c2b0 : decide (0 ≤ x4_1) = false := decide_eq_false c2
        clear c2
        obtain rfl := Option.some.inj H
        go_wp2
        go_ret
        exact ⟨by first | rfl | (simp; done) | (simp [*]; done), by repeat (first | exact Drawn0.refl _ | apply Drawn0.step)⟩

end Go.Proofs.Yticpjidcgaaldaa

namespace Go.Proofs.Yticpjidcgaaldaa
open Go.RowKit Go.Proofs.YticpjidcgaaldaaW.PrintWords Go.Proofs.YticpjidcgaaldaaW.PrintLast Go.Proofs.YticpjidcgaaldaaW.PrintMore
set_option linter.unusedVariables false
set_option linter.unusedSimpArgs false

theorem rright_l0 (P : List Int) (hP : Bytes P) (hl : P.length < 4611686018427387904) : ∀ (d k i : Nat), i + d = P.length → d < k →
    hoodwinkref07_Right.l0 k (prevP P i) P (P.length : Int) (i : Int) = some (risB (prevP P i) (P.drop i))
  | 0, k + 1, i, h, _ => by
    unfold hoodwinkref07_Right.l0
    rw [if_neg (by omega), List.drop_of_length_le (by omega)]
    unfold risB
    rfl
  | d + 1, k + 1, i, h, hk => by
    have hi : i < P.length := by omega
    have hx := hP _ (List.getElem_mem hi)
    unfold hoodwinkref07_Right.l0
    rw [if_pos (by omega), if_pos (by omega), if_pos (by omega), rd_getElem hi, w64 (n := P[i]) (by omega), List.drop_eq_getElem_cons hi, risB_cons]
    have ih := rright_l0 P hP hl d k (i + 1) (by omega) (by omega)
    have hn : wrap64 ((i : Int) + 1) = ((i + 1 : Nat) : Int) := next64 (by omega)
    have hpi : prevP P (i + 1) = P[i] := by
      unfold prevP
      rw [if_neg (by omega), Nat.add_sub_cancel, List.getD_eq_getElem?_getD, List.getElem?_eq_getElem hi]; rfl
    rw [hpi] at ih
    by_cases h1 : P[i] ≤ prevP P i
    · rw [if_pos h1, decide_eq_false (p := prevP P i < P[i]) (by omega)]; simp
    · rw [if_neg h1, decide_eq_true (p := prevP P i < P[i]) (by omega)]
      by_cases h2 : P[i] > 47
      · rw [if_pos h2, decide_eq_false (p := P[i] < 48) (by omega)]; simp
      · rw [if_neg h2, decide_eq_true (p := P[i] < 48) (by omega), hn, ih]; simp
theorem rright_any (tk hs : Int) (P : List Int) (R : List S97) (v : Value) (w : World) (hv : DrC w tk hs P R v) (hP : Bytes P) (hl : P.length < 4611686018427387904) :
    Calls Try.prog 42 #[v] w fun e w' => e = .returned (.bool (rightB P R.length)) ∧ Below w.heap.size w w' := by
  obtain ⟨A, c, A2, c2, rfl, h2, h3, h4, h5⟩ := hv
  refine hoodwinkref07_Right.calls (P.length + 1) tk hs A c P A2 c2 R (rightB P R.length) w h4 h2 h5 h3 ?_
  have := rright_l0 P hP hl P.length (P.length + 1) 0 (by omega) (by omega)
  unfold hoodwinkref07_Right.f rightB
  rw [List.drop_zero] at this
  by_cases e : P.length = R.length
  · rw [if_pos (by omega)]
    have e2 : (P.length == R.length) = true := by simp [e]
    rw [e2, Bool.and_true]
    exact this
  · rw [if_neg (by omega)]
    have e2 : (P.length == R.length) = false := by simp [e]
    rw [e2, Bool.and_false]
theorem C_of_three {α : Type} {d : Kd α} {e : Nat} {w : World} {g : Nat} {t : TypeId} {fr : Nat × Nat} {A B D : Option Addr} {n m p c c' c'' : Nat} {x y z : List α} (hg : w.heap[g]? = some (.cells #[.slice A n c, .slice B m c', .slice D p c''] t fr))
    (hx : d.C w A n x) (hc : n ≤ c) (hy : d.C w B m y) (hc' : m ≤ c') (hz : d.C w D p z) (hc'' : p ≤ c'') : (Kd.slice e d).C w (some ⟨g, 0, none⟩) 3 [x, y, z] := by
  obtain rfl := hx.1
  obtain rfl := hy.1
  obtain rfl := hz.1
  refine C_of_rows hg rfl (by omega) fun j p hj => ?_
  match j with
  | 0 => obtain rfl : x = p := by simpa using hj
         exact ⟨A, c, rfl, hc, hx⟩
  | 1 => obtain rfl : y = p := by simpa using hj
         exact ⟨B, c', rfl, hc', hy⟩
  | 2 => obtain rfl : z = p := by simpa using hj
         exact ⟨D, c'', rfl, hc'', hz⟩
  | j + 3 => simp at hj
theorem cut_lh {P : Program} (k kl kh : IntKind) (t e bytes : Nat) (ht : P.underlying t = some (.slice e)) (hinfo : (P.info? e).map (fun i => (i.zero, i.size, i.bytes)) = some (some (.int k 0), 1, bytes)) (A : Option Addr) (n c i j : Nat) (hij : i ≤ j) (hj : j ≤ n) (hc : n ≤ c) :
    ∃ A' : Option Addr, (∀ W : World, (Instr.slice t (.slice A n c) (some (.int kl (i : Int))) (some (.int kh (j : Int))) none).run P W = .ok (.slice A' (j - i) (c - i)) W) ∧
      ∀ (w : World) (xs : List Int), (Kd.int k).C w A n xs → (Kd.int k).C w A' (j - i) ((xs.take j).drop i) := by
  obtain ⟨i0, hi, hzz⟩ := Option.map_eq_some_iff.1 hinfo
  simp only [Prod.mk.injEq] at hzz
  have hel : P.elem t = e := by simp [Program.elem, ht]
  have hu : P.underlying t = some (.slice (P.elem t)) := by rw [hel]; exact ht
  refine ⟨if c = i then A else A.map (·.add i), fun W => ?_, fun w xs h => ?_⟩
  · rw [run_slice_lh W t A n c hu kl kh (i : Int) (j : Int) (Int.natCast_nonneg _) (by omega) (by omega), hel]
    simp [sizeOf, typeInfo, hi, hzz.2.1, sliced, Result.andThen]
  · obtain rfl := h.1
    have := Kd.C_mid h hij hj hc
    have e1 : ((xs.take j).drop i).length = j - i := by rw [List.length_drop, List.length_take]; omega
    rw [e1] at this
    have e2 : (Kd.int k).sz = 1 := rfl
    simpa [e2] using this
end Go.Proofs.Yticpjidcgaaldaa

namespace Go.Proofs.Yticpjidcgaaldaa
open Go.RowKit Go.Proofs.YticpjidcgaaldaaW.PrintWords Go.Proofs.YticpjidcgaaldaaW.PrintLast Go.Proofs.YticpjidcgaaldaaW.PrintMore
set_option linter.unusedVariables false
set_option linter.unusedSimpArgs false

theorem runs_slice {P : Program} {o : Oper} {ρ : Operand → Value} {w : World} {R : Value → World → Prop} (t : TypeId) (x : Operand) (lo hi mx : Option Operand) (ho : o.op = .slice t x lo hi mx) {e : TypeId} (ht : P.underlying t = some (.slice e)) {v : Value}
    (h : (Instr.slice t (ρ x) (lo.map ρ) (hi.map ρ) (mx.map ρ)).run P w = .ok v w) (hR : R v w) : runs P o ρ w R := by
  have hel : P.elem t = e := by simp [Program.elem, ht]
  refine runs_val (v := v) (w' := w) ?_ hR
  unfold execOp
  rw [ho]
  simp only []
  rw [Sem.run_bind, run_sliceAt_slice w t (ρ x) (lo.map ρ) (hi.map ρ) (mx.map ρ) (by rw [hel]; exact ht), h]
  rfl
theorem toR_f (L : List S59) {i : Nat} (h : i < L.length) : (L.map toR)[i]'(by simpa using h) = toR L[i] := by simp
set_option maxRecDepth 100000 in
set_option maxHeartbeats 8000000 in
theorem rbytes7_any (tk hs : Nat) (P : List Int) (C : List S59) (v : Value) (w : World) (hv : DrC w tk hs P (C.map toR) v) (hr : rightB P C.length = true) (htk : tk < 4294967296) (hhs : hs < 4294967296) (hU : ∀ x ∈ C, U32 x.f1) :
    Calls Try.prog 49 #[v] w fun e w' => ∃ v', e = .returned v' ∧ BvC w' (dBytes tk hs P C) v' ∧ Below w.heap.size w w' := by
  obtain ⟨A, c, A2, c2, rfl, hc, hc2, hp, hC⟩ := hv
  obtain ⟨hr1, hr2⟩ : risB (-1) P = true ∧ P.length = C.length := by
    unfold rightB at hr
    simp only [Bool.and_eq_true, beq_iff_eq] at hr
    exact hr
  obtain ⟨q1, q2, q3⟩ := risB_le (by omega) (by omega) hr1
  have hCl := hC.1
  obtain ⟨m, hm⟩ : ∃ m, C.length = m := ⟨_, rfl⟩
  obtain ⟨n, hn⟩ : ∃ n, P.length = n := ⟨_, rfl⟩
  have HPC : Aside0 (P.length = n ∧ C.length = m ∧ n = m ∧ m ≤ 48) := ⟨hn, hm, by omega, by omega⟩
  rw [List.length_map, hm] at hC hc2
  rw [hn] at hp hc
  rw [List.length_map, hm, hn]
  have HTK := Aside0.mk htk
  have HHS := Aside0.mk hhs
  have HU := Aside0.mk hU
  have HB := Aside0.mk q2
  have HCC := Aside0.mk (And.intro hc hc2)
  have HF : Aside0 (∀ z, Below w.heap.size w z → (Kd.int .u8).C z A n P ∧ k97.C z A2 m (C.map toR)) := ⟨fun z hb => ⟨Kd.C_below hp hb, Kd.C_below hC hb⟩⟩
  have H0 := Aside0.mk ((Hp.start w).alloc (.cells #[.int .u32 tk, .int .u32 hs, .slice A n c, .slice A2 m c2] 37))
  clear hp hC hc hc2 hr hr1 hr2 q1 q2 q3 htk hhs hU hCl hn hm
  go_enter Try.func49, Try.ntmps49
  go_wp2_with fail
  obtain ⟨gd, hgd⟩ : ∃ gd, w.heap.size = gd := ⟨_, rfl⟩
  rw [hgd] at H0 HF
  rw [hgd]
  have HGD := Aside0.mk hgd
  have HBG : Aside0 (Below gd w (w.alloc (.cells #[.int .u32 tk, .int .u32 hs, .slice A n c, .slice A2 m c2] 37))) := ⟨H0.out.bel⟩
  have HG0 := Aside0.mk (H0.out.get (i := 0) rfl)
  have GD : Aside0 (gd < (w.alloc (.cells #[.int .u32 tk, .int .u32 hs, .slice A n c, .slice A2 m c2] 37)).heap.size) := ⟨H0.out.lt (i := 0) rfl⟩
  have IX : Aside0 (IntKind.u8.wrap (n : Int) = ((n % 256 : Nat) : Int)) := ⟨by rw [IntWalk.u8_in _ (by have := HPC.out; omega)]; have := HPC.out; omega⟩
  clear hgd H0
  generalize hV : w.alloc (.cells #[.int .u32 tk, .int .u32 hs, .slice A n c, .slice A2 m c2] 37) = W at *
  clear hV
  obtain ⟨gw, hgw⟩ : ∃ gw, W.heap.size = gw := ⟨_, rfl⟩
  rw [hgw] at GD
  have HGW := Aside0.mk hgw
  clear hgw
  obtain ⟨y8, hy8⟩ : ∃ y8 : Nat, n % 256 = y8 := ⟨_, rfl⟩
  rw [hy8] at IX
  have HY8 := Aside0.mk hy8
  clear hy8
  refine region_grown (W := W)
    [fun (w : World) (v : Value) => v = .pointer (some ⟨gd, 0, none⟩),
     fun (w : World) (v : Value) => v = .int .u32 tk,
     fun (w : World) (v : Value) => v = .int .u64 tk,
     fun (w : World) (v : Value) => ∃ A c, v = .slice A 4 c ∧ 4 ≤ c ∧ (Kd.int .u8).C w A 4 (lowN tk 4),
     fun (w : World) (v : Value) => v = .pointer (some ⟨gd, 1, none⟩),
     fun (w : World) (v : Value) => v = .int .u32 hs,
     fun (w : World) (v : Value) => v = .int .u64 hs,
     fun (w : World) (v : Value) => ∃ A c, v = .slice A 4 c ∧ 4 ≤ c ∧ (Kd.int .u8).C w A 4 (lowN hs 4),
     fun (w : World) (v : Value) => v = .pointer (some ⟨gd, 2, none⟩),
     fun (w : World) (v : Value) => v = .slice A n c,
     fun (w : World) (v : Value) => v = .int .i64 n,
     fun (w : World) (v : Value) => v = .int .u8 (y8 : Int),
     fun (w : World) (v : Value) => ∃ A, v = .slice A 1 1 ∧ (Kd.int .u8).C w A 1 [(y8 : Int)],
     fun (w : World) (v : Value) => ∃ A, v = .slice A 3 3 ∧ (Kd.slice 5 (Kd.int .u8)).C w A 3 [lowN tk 4, lowN hs 4, [(y8 : Int)]],
     fun (w : World) (v : Value) => BvC w (lowN tk 4 ++ lowN hs 4 ++ [(y8 : Int)]) v,
     fun (w : World) (v : Value) => BvC w (lowN tk 4 ++ lowN hs 4 ++ [(y8 : Int)]) v]
    (fun j =>  none)
    [(0, some 6), (1, some 7), (2, some 8), (3, some 9), (4, some 10), (5, some 11), (6, some 12), (7, some 13), (8, some 14), (9, some 15), (10, some 16), (11, some 17), (12, some 18), (13, some 19), (14, some 20), (15, some 3)]
    []
    (by kernel_rfl) (by kernel_rfl) (by kernel_rfl) (by kernel_rfl) ?r1_1g ?r1_1s ⟨?r1_1o0, ?r1_1o1, ?r1_1o2, ?r1_1o3, ?r1_1o4, ?r1_1o5, ?r1_1o6, ?r1_1o7, ?r1_1o8, ?r1_1o9, ?r1_1o10, ?r1_1o11, ?r1_1o12, ?r1_1o13, ?r1_1o14, ?r1_1o15, trivial⟩ ?r1_1e
  case r1_1g =>
    intro j hj; cases hj
  case r1_1s =>
    refine ⟨(fun w w' v hb h => h), (fun w w' v hb h => h), (fun w w' v hb h => h), (fun w w' v hb h => let ⟨A, c, h1, h2, h3⟩ := h; ⟨A, c, h1, h2, Kd.C_below h3 hb⟩), (fun w w' v hb h => h), (fun w w' v hb h => h), (fun w w' v hb h => h), (fun w w' v hb h => let ⟨A, c, h1, h2, h3⟩ := h; ⟨A, c, h1, h2, Kd.C_below h3 hb⟩), (fun w w' v hb h => h), (fun w w' v hb h => h), (fun w w' v hb h => h), (fun w w' v hb h => h), (fun w w' v hb h => let ⟨A, h1, h2⟩ := h; ⟨A, h1, Kd.C_below h2 hb⟩), (fun w w' v hb h => let ⟨A, h1, h2⟩ := h; ⟨A, h1, Kd.C_below h2 hb⟩), (fun w w' v hb h => h.below hb), (fun w w' v hb h => h.below hb), trivial⟩
  case r1_1o0 =>
    intro vs w hb hV
    rw [if_pos (by kernel_rfl)]
    generalize hρ : rho _ _ _ vs = ρ
    have e1 : ρ (.tmp 1) = .pointer (some ⟨gd, 0, none⟩) := by rw [← hρ]; kernel_rfl
    clear hρ hV
    refine runs_val (v := .pointer (some ⟨gd, 0, none⟩)) (w' := w) ?_ ⟨Below.refl _ _, rfl⟩
    go_simp <;> (first | exact IntWalk.u64_in _ (by omega) | exact IntWalk.u32_in _ (by omega) | exact IntWalk.u16_in _ (by omega) | exact IntWalk.u8_in _ (by omega) | exact IntWalk.i64_in _ (by omega) | skip)
  case r1_1o1 =>
    intro vs w hb hV
    rw [if_pos (by kernel_rfl)]
    generalize hρ : rho _ _ _ vs = ρ
    have d6 : (vs 0) = .pointer (some ⟨gd, 0, none⟩) := hV 0 (by kernel_rfl)
    have e6 : ρ (.tmp 6) = vs 0 := by rw [← hρ]; kernel_rfl
    rw [d6] at e6; clear d6
    clear hρ hV
    have c0 := pw_cell_below hb (blk_cell HG0.out 0)
    refine runs_val (v := .int .u32 tk) (w' := w) ?_ ⟨Below.refl _ _, rfl⟩
    go_simp
  case r1_1o2 =>
    intro vs w hb hV
    rw [if_pos (by kernel_rfl)]
    generalize hρ : rho _ _ _ vs = ρ
    have d7 : (vs 1) = .int .u32 tk := hV 1 (by kernel_rfl)
    have e7 : ρ (.tmp 7) = vs 1 := by rw [← hρ]; kernel_rfl
    rw [d7] at e7; clear d7
    clear hρ hV
    refine runs_val (v := .int .u64 tk) (w' := w) ?_ ⟨Below.refl _ _, rfl⟩
    go_simp
    exact IntWalk.u64_in _ (by have := HTK.out; omega)
  case r1_1o3 =>
    intro vs w hb hV
    rw [if_pos (by kernel_rfl)]
    generalize hρ : rho _ _ _ vs = ρ
    have d8 : (vs 2) = .int .u64 tk := hV 2 (by kernel_rfl)
    have e8 : ρ (.tmp 8) = vs 2 := by rw [← hρ]; kernel_rfl
    rw [d8] at e8; clear d8
    have ef48 : ρ (.func 48) = .func (.func 48) #[] #[] := by rw [← hρ]; rfl
    have econ : ∀ v : Value, ρ (.const v) = v := fun v => by rw [← hρ]; rfl
    clear hρ hV
    refine runs_call (f := 48) (args := #[.int .u64 tk, .int .i64 4]) (w' := w) ?_ ?_
    · go_simp
    · refine (low_any tk 4 w (by have := HTK.out; omega) (by omega)).mono ?_
      rintro e w5 ⟨v, rfl, hv, hb5⟩
      obtain ⟨A1, c1, e1, e2, e3⟩ := Kd.R_reads hv
      rw [lowN_length] at e1 e2 e3
      exact ⟨_, rfl, hb5, A1, c1, e1, e2, e3⟩
  case r1_1o4 =>
    intro vs w hb hV
    rw [if_pos (by kernel_rfl)]
    generalize hρ : rho _ _ _ vs = ρ
    have e1 : ρ (.tmp 1) = .pointer (some ⟨gd, 0, none⟩) := by rw [← hρ]; kernel_rfl
    clear hρ hV
    refine runs_val (v := .pointer (some ⟨gd, 1, none⟩)) (w' := w) ?_ ⟨Below.refl _ _, rfl⟩
    go_simp <;> (first | exact IntWalk.u64_in _ (by omega) | exact IntWalk.u32_in _ (by omega) | exact IntWalk.u16_in _ (by omega) | exact IntWalk.u8_in _ (by omega) | exact IntWalk.i64_in _ (by omega) | skip)
  case r1_1o5 =>
    intro vs w hb hV
    rw [if_pos (by kernel_rfl)]
    generalize hρ : rho _ _ _ vs = ρ
    have d10 : (vs 4) = .pointer (some ⟨gd, 1, none⟩) := hV 4 (by kernel_rfl)
    have e10 : ρ (.tmp 10) = vs 4 := by rw [← hρ]; kernel_rfl
    rw [d10] at e10; clear d10
    clear hρ hV
    have c0 := pw_cell_below hb (blk_cell HG0.out 1)
    refine runs_val (v := .int .u32 hs) (w' := w) ?_ ⟨Below.refl _ _, rfl⟩
    go_simp
  case r1_1o6 =>
    intro vs w hb hV
    rw [if_pos (by kernel_rfl)]
    generalize hρ : rho _ _ _ vs = ρ
    have d11 : (vs 5) = .int .u32 hs := hV 5 (by kernel_rfl)
    have e11 : ρ (.tmp 11) = vs 5 := by rw [← hρ]; kernel_rfl
    rw [d11] at e11; clear d11
    clear hρ hV
    refine runs_val (v := .int .u64 hs) (w' := w) ?_ ⟨Below.refl _ _, rfl⟩
    go_simp
    exact IntWalk.u64_in _ (by have := HHS.out; omega)
  case r1_1o7 =>
    intro vs w hb hV
    rw [if_pos (by kernel_rfl)]
    generalize hρ : rho _ _ _ vs = ρ
    have d12 : (vs 6) = .int .u64 hs := hV 6 (by kernel_rfl)
    have e12 : ρ (.tmp 12) = vs 6 := by rw [← hρ]; kernel_rfl
    rw [d12] at e12; clear d12
    have ef48 : ρ (.func 48) = .func (.func 48) #[] #[] := by rw [← hρ]; rfl
    have econ : ∀ v : Value, ρ (.const v) = v := fun v => by rw [← hρ]; rfl
    clear hρ hV
    refine runs_call (f := 48) (args := #[.int .u64 hs, .int .i64 4]) (w' := w) ?_ ?_
    · go_simp
    · refine (low_any hs 4 w (by have := HHS.out; omega) (by omega)).mono ?_
      rintro e w5 ⟨v, rfl, hv, hb5⟩
      obtain ⟨A1, c1, e1, e2, e3⟩ := Kd.R_reads hv
      rw [lowN_length] at e1 e2 e3
      exact ⟨_, rfl, hb5, A1, c1, e1, e2, e3⟩
  case r1_1o8 =>
    intro vs w hb hV
    rw [if_pos (by kernel_rfl)]
    generalize hρ : rho _ _ _ vs = ρ
    have e1 : ρ (.tmp 1) = .pointer (some ⟨gd, 0, none⟩) := by rw [← hρ]; kernel_rfl
    clear hρ hV
    refine runs_val (v := .pointer (some ⟨gd, 2, none⟩)) (w' := w) ?_ ⟨Below.refl _ _, rfl⟩
    go_simp <;> (first | exact IntWalk.u64_in _ (by omega) | exact IntWalk.u32_in _ (by omega) | exact IntWalk.u16_in _ (by omega) | exact IntWalk.u8_in _ (by omega) | exact IntWalk.i64_in _ (by omega) | skip)
  case r1_1o9 =>
    intro vs w hb hV
    rw [if_pos (by kernel_rfl)]
    generalize hρ : rho _ _ _ vs = ρ
    have d14 : (vs 8) = .pointer (some ⟨gd, 2, none⟩) := hV 8 (by kernel_rfl)
    have e14 : ρ (.tmp 14) = vs 8 := by rw [← hρ]; kernel_rfl
    rw [d14] at e14; clear d14
    clear hρ hV
    have c0 := pw_cell_below hb (blk_cell HG0.out 2)
    refine runs_val (v := .slice A n c) (w' := w) ?_ ⟨Below.refl _ _, rfl⟩
    go_simp
  case r1_1o10 =>
    intro vs w hb hV
    rw [if_pos (by kernel_rfl)]
    generalize hρ : rho _ _ _ vs = ρ
    have d15 : (vs 9) = .slice A n c := hV 9 (by kernel_rfl)
    have e15 : ρ (.tmp 15) = vs 9 := by rw [← hρ]; kernel_rfl
    rw [d15] at e15; clear d15
    clear hρ hV
    refine runs_val (v := .int .i64 n) (w' := w) ?_ ⟨Below.refl _ _, rfl⟩
    go_simp <;> (first | exact IntWalk.u64_in _ (by omega) | exact IntWalk.u32_in _ (by omega) | exact IntWalk.u16_in _ (by omega) | exact IntWalk.u8_in _ (by omega) | exact IntWalk.i64_in _ (by omega) | skip)
  case r1_1o11 =>
    intro vs w hb hV
    rw [if_pos (by kernel_rfl)]
    generalize hρ : rho _ _ _ vs = ρ
    have d16 : (vs 10) = .int .i64 n := hV 10 (by kernel_rfl)
    have e16 : ρ (.tmp 16) = vs 10 := by rw [← hρ]; kernel_rfl
    rw [d16] at e16; clear d16
    clear hρ hV
    have ix := IX.out
    refine runs_val (v := .int .u8 (y8 : Int)) (w' := w) ?_ ⟨Below.refl _ _, rfl⟩
    rw [← ix]
    clear ix
    go_simp
  case r1_1o12 =>
    intro vs w hb hV
    rw [if_pos (by kernel_rfl)]
    generalize hρ : rho _ _ _ vs = ρ
    have d17 : (vs 11) = .int .u8 (y8 : Int) := hV 11 (by kernel_rfl)
    have e17 : ρ (.tmp 17) = vs 11 := by rw [← hρ]; kernel_rfl
    rw [d17] at e17; clear d17
    clear hρ hV
    refine runs_val (v := .slice (some ⟨w.heap.size, 0, none⟩) 1 1) (w' := w.alloc (.cells #[.int .u8 (y8 : Int)] 5)) ?_ ⟨below_alloc (Below.refl _ _) _, _, rfl, C_of_block (heap_alloc_new _ _) ⟨rfl, rfl, by omega⟩⟩
    go_simp
  case r1_1o13 =>
    intro vs w hb hV
    rw [if_pos (by kernel_rfl)]
    generalize hρ : rho _ _ _ vs = ρ
    have d9 : (fun (w : World) (v : Value) => ∃ A c, v = .slice A 4 c ∧ 4 ≤ c ∧ (Kd.int .u8).C w A 4 (lowN tk 4)) w (vs 3) := hV 3 (by kernel_rfl)
    have e9 : ρ (.tmp 9) = vs 3 := by rw [← hρ]; kernel_rfl
    obtain ⟨B1, b1, h1, hb1, hC1⟩ := d9
    have d13 : (fun (w : World) (v : Value) => ∃ A c, v = .slice A 4 c ∧ 4 ≤ c ∧ (Kd.int .u8).C w A 4 (lowN hs 4)) w (vs 7) := hV 7 (by kernel_rfl)
    have e13 : ρ (.tmp 13) = vs 7 := by rw [← hρ]; kernel_rfl
    obtain ⟨B2, b2, h2, hb3, hC2⟩ := d13
    have d18 : (fun (w : World) (v : Value) => ∃ A, v = .slice A 1 1 ∧ (Kd.int .u8).C w A 1 [(y8 : Int)]) w (vs 12) := hV 12 (by kernel_rfl)
    have e18 : ρ (.tmp 18) = vs 12 := by rw [← hρ]; kernel_rfl
    obtain ⟨B3, h3, hC3⟩ := d18
    clear hρ hV
    rw [h1] at e9
    rw [h2] at e13
    rw [h3] at e18
    refine runs_val (v := .slice (some ⟨w.heap.size, 0, none⟩) 3 3) (w' := w.alloc (.cells #[.slice B1 4 b1, .slice B2 4 b2, .slice B3 1 1] 23)) ?_ ⟨below_alloc (Below.refl _ _) _, _, rfl, C_of_three (heap_alloc_new _ _) (Kd.C_alloc hC1 _) hb1 (Kd.C_alloc hC2 _) hb3 (Kd.C_alloc hC3 _) (by omega)⟩
    go_simp
  case r1_1o14 =>
    intro vs w hb hV
    rw [if_pos (by kernel_rfl)]
    generalize hρ : rho _ _ _ vs = ρ
    have d19 : (fun (w : World) (v : Value) => ∃ A, v = .slice A 3 3 ∧ (Kd.slice 5 (Kd.int .u8)).C w A 3 [lowN tk 4, lowN hs 4, [(y8 : Int)]]) w (vs 13) := hV 13 (by kernel_rfl)
    have e19 : ρ (.tmp 19) = vs 13 := by rw [← hρ]; kernel_rfl
    obtain ⟨B4, h4, hC4⟩ := d19
    have ef21 : ρ (.func 21) = .func (.func 21) #[] #[] := by rw [← hρ]; rfl
    clear hρ hV
    rw [h4] at e19
    refine runs_call (f := 21) (args := #[.slice B4 3 3]) (w' := w) ?_ ?_
    · go_simp
    · refine (join_any B4 3 3 _ w hC4 (by omega) (by simp [lowN_length])).mono ?_
      rintro e w5 ⟨v, rfl, hv, hb5⟩
      have he : [lowN tk 4, lowN hs 4, [(y8 : Int)]].flatten = lowN tk 4 ++ lowN hs 4 ++ [(y8 : Int)] := by simp
      rw [he] at hv
      exact ⟨_, rfl, hb5, BvC.of_R hv⟩
  case r1_1o15 =>
    intro vs w hb hV
    rw [if_pos (by kernel_rfl)]
    generalize hρ : rho _ _ _ vs = ρ
    have d20 : (fun (w : World) (v : Value) => BvC w (lowN tk 4 ++ lowN hs 4 ++ [(y8 : Int)]) v) w (vs 14) := hV 14 (by kernel_rfl)
    have e20 : ρ (.tmp 20) = vs 14 := by rw [← hρ]; kernel_rfl
    clear hρ hV
    refine runs_val (v := vs 14) (w' := w) ?_ ⟨Below.refl _ _, d20⟩
    go_simp
  case r1_1e =>
    intro vs V2 hb2 hV
    have d6 : (vs 0) = .pointer (some ⟨gd, 0, none⟩) := hV 0 (Nat.le_of_ble_eq_true rfl)
    have d7 : (vs 1) = .int .u32 tk := hV 1 (Nat.le_of_ble_eq_true rfl)
    have d8 : (vs 2) = .int .u64 tk := hV 2 (Nat.le_of_ble_eq_true rfl)
    have d9 : (fun (w : World) (v : Value) => ∃ A c, v = .slice A 4 c ∧ 4 ≤ c ∧ (Kd.int .u8).C w A 4 (lowN tk 4)) V2 (vs 3) := hV 3 (Nat.le_of_ble_eq_true rfl)
    have d10 : (vs 4) = .pointer (some ⟨gd, 1, none⟩) := hV 4 (Nat.le_of_ble_eq_true rfl)
    have d11 : (vs 5) = .int .u32 hs := hV 5 (Nat.le_of_ble_eq_true rfl)
    have d12 : (vs 6) = .int .u64 hs := hV 6 (Nat.le_of_ble_eq_true rfl)
    have d13 : (fun (w : World) (v : Value) => ∃ A c, v = .slice A 4 c ∧ 4 ≤ c ∧ (Kd.int .u8).C w A 4 (lowN hs 4)) V2 (vs 7) := hV 7 (Nat.le_of_ble_eq_true rfl)
    have d14 : (vs 8) = .pointer (some ⟨gd, 2, none⟩) := hV 8 (Nat.le_of_ble_eq_true rfl)
    have d15 : (vs 9) = .slice A n c := hV 9 (Nat.le_of_ble_eq_true rfl)
    have d16 : (vs 10) = .int .i64 n := hV 10 (Nat.le_of_ble_eq_true rfl)
    have d17 : (vs 11) = .int .u8 (y8 : Int) := hV 11 (Nat.le_of_ble_eq_true rfl)
    have d18 : (fun (w : World) (v : Value) => ∃ A, v = .slice A 1 1 ∧ (Kd.int .u8).C w A 1 [(y8 : Int)]) V2 (vs 12) := hV 12 (Nat.le_of_ble_eq_true rfl)
    have d19 : (fun (w : World) (v : Value) => ∃ A, v = .slice A 3 3 ∧ (Kd.slice 5 (Kd.int .u8)).C w A 3 [lowN tk 4, lowN hs 4, [(y8 : Int)]]) V2 (vs 13) := hV 13 (Nat.le_of_ble_eq_true rfl)
    have d20 : (fun (w : World) (v : Value) => BvC w (lowN tk 4 ++ lowN hs 4 ++ [(y8 : Int)]) v) V2 (vs 14) := hV 14 (Nat.le_of_ble_eq_true rfl)
    have d3 : (fun (w : World) (v : Value) => BvC w (lowN tk 4 ++ lowN hs 4 ++ [(y8 : Int)]) v) V2 (vs 15) := hV 15 (Nat.le_of_ble_eq_true rfl)
    clear hV
    simp only [putAll]
    rw [d6, d7, d8, d10, d11, d12, d14, d15, d16, d17]
    clear d6 d7 d8 d10 d11 d12 d14 d15 d16 d17
    generalize vs 3 = v9 at *
    generalize vs 7 = v13 at *
    generalize vs 12 = v18 at *
    generalize vs 13 = v19 at *
    generalize vs 14 = v20 at *
    generalize vs 15 = v3 at *
    clear vs
    simp only [Act.put, List.setIfInBounds_toArray, List.set_cons_zero, List.set_cons_succ]
    clear d9 d13 d18 d19 d20
    have HH : Aside0 (dHead tk hs n = lowN tk 4 ++ lowN hs 4 ++ [(y8 : Int)]) := ⟨by unfold dHead; rw [HY8.out]⟩
    have HQ : Aside0 (BvC V2 (dHead tk hs n ++ dRows (P.take 0) (C.take 0)) v3 ∧ Below gd w V2 ∧ gd < V2.heap.size ∧ V2.heap[gd]? = some (.cells #[.int .u32 tk, .int .u32 hs, .slice A n c, .slice A2 m c2] 37 (0, 0))) := ⟨by
      refine ⟨?_, HBG.out.trans (hb2.mono (by have := GD.out; have := HGW.out; omega)), by have := GD.out; have := HGW.out; have := hb2.size; omega, blk_below HG0.out hb2⟩
      rw [HH.out]
      simpa [dRows] using d3⟩
    clear d3 hb2 HBG HG0 GD HH HY8 IX HGW
    have c3 := blk_cell HQ.out.2.2.2 3
    go_wp2_with fail
    clear c3
    go_loopw [3, 24] (fun v3 v24 wr => ∃ i : Nat, i ≤ m ∧ v24 = .int .i64 i ∧ Aside0 (BvC wr (dHead tk hs n ++ dRows (P.take i) (C.take i)) v3 ∧ Below gd w wr ∧ gd < wr.heap.size ∧ wr.heap[gd]? = some (.cells #[.int .u32 tk, .int .u32 hs, .slice A n c, .slice A2 m c2] 37 (0, 0)))) (fun _ v24 _ => m - (intOf v24).toNat)
    case atStart => exact ⟨0, by omega, rfl, HQ⟩
    case round =>
      clear HQ
      obtain ⟨i, hi, rfl, H⟩ := hrel
      by_cases hlt : i < m
      · have hd1 : decide (i < m) = true := decide_eq_true hlt
        have hiP : i < P.length := by rw [HPC.out.1, HPC.out.2.2.1]; exact hlt
        have hiC : i < C.length := by rw [HPC.out.2.1]; exact hlt
        obtain ⟨f1, f2⟩ := HF.out wr H.out.2.1
        obtain ⟨adc, hA2, q0, q1⟩ := cell_at52 f2 (j := i) (by rw [List.length_map]; exact hiC)
        rw [toR_f C hiC] at q0 q1
        have HROW := Aside0.mk (dRows_succ hiP hiC)
        have hin : i + 1 ≤ n := by have := HPC.out; omega
        obtain ⟨Ap, lh1, lh2⟩ := cut_lh (P := Try.prog) .u8 .i64 .i64 23 5 1 Try.underlying23 np_info A n c i (i + 1) (Nat.le_succ _) hin HCC.out.1
        have LH1 := Aside0.mk lh1
        have e11 : i + 1 - i = 1 := by omega
        have epi : (P.take (i + 1)).drop i = [P[i]] := by
          rw [take_snoc hiP, List.drop_append_of_le_length (by rw [List.length_take]; omega), List.drop_of_length_le (by rw [List.length_take]; omega)]; rfl
        have LH2 : Aside0 (∀ z, Below gd w z → (Kd.int .u8).C z Ap 1 [P[i]]) := ⟨fun z hz => by have := lh2 z P (HF.out z hz).1; rw [epi, e11] at this; exact this⟩
        have HY := HU.out _ (List.getElem_mem hiC)
        subst hA2
        have NX : Aside0 (IntKind.i64.wrap ((i : Int) + 1) = ((i + 1 : Nat) : Int)) := ⟨by rw [IntWalk.i64_in _ (by have := HPC.out; omega)]; omega⟩
        obtain ⟨pi, hpi⟩ : ∃ pi, P[i] = pi := ⟨_, rfl⟩
        obtain ⟨x, hx⟩ : ∃ x, C[i] = x := ⟨_, rfl⟩
        rw [hpi] at HROW LH2
        rw [hx] at q0 q1 HROW HY
        have q0' : wr.cell? (adc.add (i * 2)) = some (.int .i32 x.f0) := q0
        have q1' : wr.cell? ⟨(adc.add (i * 2)).block, (adc.add (i * 2)).off + 1, none⟩ = some (.int .u32 x.f1) := q1
        obtain ⟨y0, hy0⟩ : ∃ y0 : Nat, x.f1 = (y0 : Int) := ⟨x.f1.toNat, by unfold U32 at HY; omega⟩
        obtain ⟨x0, hx0⟩ : ∃ x0 : Nat, x.f0 % 4294967296 = (x0 : Int) := ⟨(x.f0 % 4294967296).toNat, by omega⟩
        obtain ⟨z0, hz0⟩ : ∃ z0 : Int, x.f0 = z0 := ⟨_, rfl⟩
        have hcb : cellB true x = cellN x0 y0 := by unfold cellB cellN; rw [if_pos rfl, hx0, hy0]; simp
        rw [hcb] at HROW
        rw [hz0] at q0' hx0
        rw [hy0] at q1' HY
        have HXW : Aside0 (z0 % 4294967296 = (x0 : Int) ∧ x0 < 4294967296 ∧ y0 < 4294967296 ∧ IntKind.u64.wrap (y0 : Int) = (y0 : Int)) := ⟨by
          have h1 : y0 < 4294967296 := by unfold U32 at HY; omega
          exact ⟨hx0, by omega, h1, IntWalk.u64_in _ (by omega)⟩⟩
        have HLEN : Aside0 ((dHead tk hs n ++ dRows (P.take i) (C.take i)).length ≤ 10000) := ⟨by
          have h1 := dRows_len (P.take i) (C.take i)
          have h2 : (P.take i).length ≤ 48 := by rw [List.length_take]; have := HPC.out; omega
          simp only [List.length_append, dHead, lowN_length, List.length_cons, List.length_nil]
          omega⟩
        have him : (i : Int) < m := by omega
        have hi0 : (0 : Int) ≤ i := by omega
        clear hpi hx hcb hx0 hz0 hy0 HY f1 f2 q0 q1 lh1 lh2 e11 epi
        obtain ⟨W0, hW0⟩ : ∃ W0, dHead tk hs n ++ dRows (P.take i) (C.take i) = W0 := ⟨_, rfl⟩
        rw [hW0] at H HLEN
        have HW0 := Aside0.mk hW0
        clear hW0
        go_wp2_with fail
        have HQ : Aside0 (BvC (wr.alloc (.cells #[.int .i32 z0, .int .u32 y0] 97)) W0 u3) := ⟨H.out.1.below (below_alloc (Below.refl _ _) _)⟩
        have HB0 : Aside0 (Below gd w (wr.alloc (.cells #[.int .i32 z0, .int .u32 y0] 97))) := ⟨H.out.2.1.trans (below_alloc (Below.refl _ _) _ |>.mono (Nat.le_of_lt H.out.2.2.1))⟩
        have GC0 := Aside0.mk (blk_new wr (.cells #[.int .i32 z0, .int .u32 y0] 97))
        have GD0 : Aside0 ((wr.alloc (.cells #[.int .i32 z0, .int .u32 y0] 97)).heap[gd]? = some (.cells #[.int .u32 tk, .int .u32 hs, .slice A n c, .slice (some adc) m c2] 37 (0, 0))) := ⟨blk_below H.out.2.2.2 (below_alloc (Below.refl _ _) _)⟩
        have GSZ : Aside0 (gd < (wr.alloc (.cells #[.int .i32 z0, .int .u32 y0] 97)).heap.size) := ⟨by have := H.out.2.2.1; simp; omega⟩
        generalize wr.alloc (.cells #[.int .i32 z0, .int .u32 y0] 97) = z1 at *
        obtain ⟨gc, hgc⟩ : ∃ gc, wr.heap.size = gc := ⟨_, rfl⟩
        rw [hgc] at GC0
        rw [hgc]
        clear H hgc q0' q1'
        obtain ⟨Ao, co, e3, hco, hO⟩ := HQ.out
        obtain ⟨lo, hlo⟩ : ∃ lo, W0.length = lo := ⟨_, rfl⟩
        rw [hlo] at e3 hco hO HLEN
        subst e3
        have HLO := Aside0.mk hlo
        have HO := Aside0.mk hO
        have HCO := Aside0.mk hco
        clear hO hco HQ hlo
        refine region_grown (W := z1)
          [fun (w : World) (v : Value) => v = .slice Ao lo co,
           fun (w : World) (v : Value) => v = .pointer (some ⟨gd, 2, none⟩),
           fun (w : World) (v : Value) => v = .slice A n c,
           fun (w : World) (v : Value) => v = .int .i64 i,
           fun (w : World) (v : Value) => v = .int .i64 i,
           fun (w : World) (v : Value) => v = .int .i64 ((i + 1 : Nat) : Int),
           fun (w : World) (v : Value) => v = .slice Ap (i + 1 - i) (c - i),
           fun (w : World) (v : Value) => v = .agg #[.int .i32 z0, .int .u32 y0],
           fun (w : World) (v : Value) => ∃ A c, v = .slice A 8 c ∧ 8 ≤ c ∧ (Kd.int .u8).C w A 8 (cellN x0 y0),
           fun (w : World) (v : Value) => ∃ A, v = .slice A 3 3 ∧ (Kd.slice 5 (Kd.int .u8)).C w A 3 [W0, [pi], cellN x0 y0],
           fun (w : World) (v : Value) => BvC w (W0 ++ (pi :: cellN x0 y0)) v,
           fun (w : World) (v : Value) => BvC w (W0 ++ (pi :: cellN x0 y0)) v]
          (fun j =>  none)
          [(0, some 29), (1, some 30), (2, some 31), (3, some 32), (4, some 33), (5, some 34), (6, some 35), (7, some 36), (8, some 37), (9, some 38), (10, some 39), (11, some 3)]
          []
          (by kernel_rfl) (by kernel_rfl) (by kernel_rfl) (by kernel_rfl) ?r5_2g ?r5_2s ⟨?r5_2o0, ?r5_2o1, ?r5_2o2, ?r5_2o3, ?r5_2o4, ?r5_2o5, ?r5_2o6, ?r5_2o7, ?r5_2o8, ?r5_2o9, ?r5_2o10, ?r5_2o11, trivial⟩ ?r5_2e
        case r5_2g =>
          intro j hj; cases hj
        case r5_2s =>
          refine ⟨(fun w w' v hb h => h), (fun w w' v hb h => h), (fun w w' v hb h => h), (fun w w' v hb h => h), (fun w w' v hb h => h), (fun w w' v hb h => h), (fun w w' v hb h => h), (fun w w' v hb h => h), (fun w w' v hb h => let ⟨A, c, h1, h2, h3⟩ := h; ⟨A, c, h1, h2, Kd.C_below h3 hb⟩), (fun w w' v hb h => let ⟨A, h1, h2⟩ := h; ⟨A, h1, Kd.C_below h2 hb⟩), (fun w w' v hb h => h.below hb), (fun w w' v hb h => h.below hb), trivial⟩
        case r5_2o0 =>
          intro vs w hb hV
          rw [if_pos (by kernel_rfl)]
          generalize hρ : rho _ _ _ vs = ρ
          have e3 : ρ (.tmp 3) = .slice Ao lo co := by rw [← hρ]; kernel_rfl
          clear hρ hV
          refine runs_val (v := .slice Ao lo co) (w' := w) ?_ ⟨Below.refl _ _, rfl⟩
          go_simp <;> (first | exact IntWalk.u64_in _ (by omega) | exact IntWalk.u32_in _ (by omega) | exact IntWalk.u16_in _ (by omega) | exact IntWalk.u8_in _ (by omega) | exact IntWalk.i64_in _ (by omega) | skip)
        case r5_2o1 =>
          intro vs w hb hV
          rw [if_pos (by kernel_rfl)]
          generalize hρ : rho _ _ _ vs = ρ
          have e1 : ρ (.tmp 1) = .pointer (some ⟨gd, 0, none⟩) := by rw [← hρ]; kernel_rfl
          clear hρ hV
          refine runs_val (v := .pointer (some ⟨gd, 2, none⟩)) (w' := w) ?_ ⟨Below.refl _ _, rfl⟩
          go_simp <;> (first | exact IntWalk.u64_in _ (by omega) | exact IntWalk.u32_in _ (by omega) | exact IntWalk.u16_in _ (by omega) | exact IntWalk.u8_in _ (by omega) | exact IntWalk.i64_in _ (by omega) | skip)
        case r5_2o2 =>
          intro vs w hb hV
          rw [if_pos (by kernel_rfl)]
          generalize hρ : rho _ _ _ vs = ρ
          have d30 : (vs 1) = .pointer (some ⟨gd, 2, none⟩) := hV 1 (by kernel_rfl)
          have e30 : ρ (.tmp 30) = vs 1 := by rw [← hρ]; kernel_rfl
          rw [d30] at e30; clear d30
          clear hρ hV
          have c0 := pw_cell_below hb (blk_cell GD0.out 2)
          refine runs_val (v := .slice A n c) (w' := w) ?_ ⟨Below.refl _ _, rfl⟩
          go_simp
        case r5_2o3 =>
          intro vs w hb hV
          rw [if_pos (by kernel_rfl)]
          generalize hρ : rho _ _ _ vs = ρ
          have e4 : ρ (.tmp 4) = .int .i64 i := by rw [← hρ]; kernel_rfl
          clear hρ hV
          refine runs_val (v := .int .i64 i) (w' := w) ?_ ⟨Below.refl _ _, rfl⟩
          go_simp <;> (first | exact IntWalk.u64_in _ (by omega) | exact IntWalk.u32_in _ (by omega) | exact IntWalk.u16_in _ (by omega) | exact IntWalk.u8_in _ (by omega) | exact IntWalk.i64_in _ (by omega) | skip)
        case r5_2o4 =>
          intro vs w hb hV
          rw [if_pos (by kernel_rfl)]
          generalize hρ : rho _ _ _ vs = ρ
          have e4 : ρ (.tmp 4) = .int .i64 i := by rw [← hρ]; kernel_rfl
          clear hρ hV
          refine runs_val (v := .int .i64 i) (w' := w) ?_ ⟨Below.refl _ _, rfl⟩
          go_simp <;> (first | exact IntWalk.u64_in _ (by omega) | exact IntWalk.u32_in _ (by omega) | exact IntWalk.u16_in _ (by omega) | exact IntWalk.u8_in _ (by omega) | exact IntWalk.i64_in _ (by omega) | skip)
        case r5_2o5 =>
          intro vs w hb hV
          rw [if_pos (by kernel_rfl)]
          generalize hρ : rho _ _ _ vs = ρ
          have d33 : (vs 4) = .int .i64 i := hV 4 (by kernel_rfl)
          have e33 : ρ (.tmp 33) = vs 4 := by rw [← hρ]; kernel_rfl
          rw [d33] at e33; clear d33
          have econ : ∀ v : Value, ρ (.const v) = v := fun v => by rw [← hρ]; rfl
          clear hρ hV
          have nx := NX.out
          refine runs_val (v := .int .i64 ((i + 1 : Nat) : Int)) (w' := w) ?_ ⟨Below.refl _ _, rfl⟩
          rw [← nx]
          clear nx
          go_simp
        case r5_2o6 =>
          intro vs w hb hV
          rw [if_pos (by kernel_rfl)]
          generalize hρ : rho _ _ _ vs = ρ
          have d31 : (vs 2) = .slice A n c := hV 2 (by kernel_rfl)
          have e31 : ρ (.tmp 31) = vs 2 := by rw [← hρ]; kernel_rfl
          rw [d31] at e31; clear d31
          have d32 : (vs 3) = .int .i64 i := hV 3 (by kernel_rfl)
          have e32 : ρ (.tmp 32) = vs 3 := by rw [← hρ]; kernel_rfl
          rw [d32] at e32; clear d32
          have d34 : (vs 5) = .int .i64 ((i + 1 : Nat) : Int) := hV 5 (by kernel_rfl)
          have e34 : ρ (.tmp 34) = vs 5 := by rw [← hρ]; kernel_rfl
          rw [d34] at e34; clear d34
          clear hρ hV
          have r1 := LH1.out w
          exact runs_slice 23 (.tmp 31) (some (.tmp 32)) (some (.tmp 34)) none rfl Try.underlying23 (by simp only [Option.map_some, Option.map_none, e31, e32, e34]; exact r1) ⟨Below.refl _ _, rfl⟩
        case r5_2o7 =>
          intro vs w hb hV
          rw [if_pos (by kernel_rfl)]
          generalize hρ : rho _ _ _ vs = ρ
          have e5 : ρ (.tmp 5) = .pointer (some ⟨gc, 0, none⟩) := by rw [← hρ]; kernel_rfl
          clear hρ hV
          have c0 := pw_cell_below hb (blk_cell GC0.out 0)
          exact runs_load 97 (.tmp 5) rfl gc (by assumption) 97 _ (0, 0) _ (blk_below GC0.out hb) Try.underlying97 rfl rfl ⟨Below.refl _ _, rfl⟩
        case r5_2o8 =>
          intro vs w hb hV
          rw [if_pos (by kernel_rfl)]
          generalize hρ : rho _ _ _ vs = ρ
          have d36 : (vs 7) = .agg #[.int .i32 z0, .int .u32 y0] := hV 7 (by kernel_rfl)
          have e36 : ρ (.tmp 36) = vs 7 := by rw [← hρ]; kernel_rfl
          rw [d36] at e36; clear d36
          have ef75 : ρ (.func 75) = .func (.func 75) #[] #[] := by rw [← hρ]; rfl
          clear hρ hV
          refine runs_call (f := 75) (args := #[.agg #[.int .i32 z0, .int .u32 y0]]) (w' := w) ?_ ?_
          · go_simp
          · refine (bytes_any z0 y0 x0 y0 HXW.out.1 HXW.out.2.2.2 (by have := HXW.out; omega) (by have := HXW.out; omega) w).mono ?_
            rintro e w5 ⟨v, rfl, hv, hb5⟩
            obtain ⟨A1, c1, e1, e2, e3⟩ := Kd.R_reads hv
            have e4 : (cellN x0 y0).length = 8 := by simp [cellN, lowN_length]
            rw [e4] at e1 e2 e3
            exact ⟨_, rfl, hb5, A1, c1, e1, e2, e3⟩
        case r5_2o9 =>
          intro vs w hb hV
          rw [if_pos (by kernel_rfl)]
          generalize hρ : rho _ _ _ vs = ρ
          have d29 : (vs 0) = .slice Ao lo co := hV 0 (by kernel_rfl)
          have e29 : ρ (.tmp 29) = vs 0 := by rw [← hρ]; kernel_rfl
          rw [d29] at e29; clear d29
          have d35 : (fun (w : World) (v : Value) => v = .slice Ap (i + 1 - i) (c - i)) w (vs 6) := hV 6 (by kernel_rfl)
          have e35 : ρ (.tmp 35) = vs 6 := by rw [← hρ]; kernel_rfl
          have d37 : (fun (w : World) (v : Value) => ∃ A c, v = .slice A 8 c ∧ 8 ≤ c ∧ (Kd.int .u8).C w A 8 (cellN x0 y0)) w (vs 8) := hV 8 (by kernel_rfl)
          have e37 : ρ (.tmp 37) = vs 8 := by rw [← hρ]; kernel_rfl
          obtain ⟨B2, b2, h2, hb6, hC2⟩ := d37
          clear hρ hV
          rw [h2] at e37
          have e35' := e35.trans d35
          have e11 : i + 1 - i = 1 := by omega
          rw [e11] at e35'
          have hc1 : 1 ≤ c - i := by have := HCC.out.1; have := HPC.out; omega
          refine runs_val (v := .slice (some ⟨w.heap.size, 0, none⟩) 3 3) (w' := w.alloc (.cells #[.slice Ao lo co, .slice Ap 1 (c - i), .slice B2 8 b2] 23)) ?_ ⟨below_alloc (Below.refl _ _) _, _, rfl, C_of_three (heap_alloc_new _ _) (Kd.C_alloc (Kd.C_below HO.out hb) _) HCO.out (Kd.C_alloc (LH2.out w (HB0.out.trans (hb.mono (Nat.le_of_lt GSZ.out)))) _) hc1 (Kd.C_alloc hC2 _) hb6⟩
          clear e35 d35
          go_simp
        case r5_2o10 =>
          intro vs w hb hV
          rw [if_pos (by kernel_rfl)]
          generalize hρ : rho _ _ _ vs = ρ
          have d38 : (fun (w : World) (v : Value) => ∃ A, v = .slice A 3 3 ∧ (Kd.slice 5 (Kd.int .u8)).C w A 3 [W0, [pi], cellN x0 y0]) w (vs 9) := hV 9 (by kernel_rfl)
          have e38 : ρ (.tmp 38) = vs 9 := by rw [← hρ]; kernel_rfl
          obtain ⟨B4, h4, hC4⟩ := d38
          have ef21 : ρ (.func 21) = .func (.func 21) #[] #[] := by rw [← hρ]; rfl
          clear hρ hV
          rw [h4] at e38
          refine runs_call (f := 21) (args := #[.slice B4 3 3]) (w' := w) ?_ ?_
          · go_simp
          · refine (join_any B4 3 3 _ w hC4 (by omega) (by have := HLEN.out; have := HLO.out; simp [lowN_length, cellN]; omega)).mono ?_
            rintro e w5 ⟨v, rfl, hv, hb5⟩
            have he : [W0, [pi], cellN x0 y0].flatten = W0 ++ (pi :: cellN x0 y0) := by simp
            rw [he] at hv
            exact ⟨_, rfl, hb5, BvC.of_R hv⟩
        case r5_2o11 =>
          intro vs w hb hV
          rw [if_pos (by kernel_rfl)]
          generalize hρ : rho _ _ _ vs = ρ
          have d39 : (fun (w : World) (v : Value) => BvC w (W0 ++ (pi :: cellN x0 y0)) v) w (vs 10) := hV 10 (by kernel_rfl)
          have e39 : ρ (.tmp 39) = vs 10 := by rw [← hρ]; kernel_rfl
          clear hρ hV
          refine runs_val (v := vs 10) (w' := w) ?_ ⟨Below.refl _ _, d39⟩
          go_simp
        case r5_2e =>
          intro vs z2 hb3 hV
          have d29 : (vs 0) = .slice Ao lo co := hV 0 (Nat.le_of_ble_eq_true rfl)
          have d30 : (vs 1) = .pointer (some ⟨gd, 2, none⟩) := hV 1 (Nat.le_of_ble_eq_true rfl)
          have d31 : (vs 2) = .slice A n c := hV 2 (Nat.le_of_ble_eq_true rfl)
          have d32 : (vs 3) = .int .i64 i := hV 3 (Nat.le_of_ble_eq_true rfl)
          have d33 : (vs 4) = .int .i64 i := hV 4 (Nat.le_of_ble_eq_true rfl)
          have d34 : (vs 5) = .int .i64 ((i + 1 : Nat) : Int) := hV 5 (Nat.le_of_ble_eq_true rfl)
          have d35 : (fun (w : World) (v : Value) => v = .slice Ap (i + 1 - i) (c - i)) z2 (vs 6) := hV 6 (Nat.le_of_ble_eq_true rfl)
          have d36 : (vs 7) = .agg #[.int .i32 z0, .int .u32 y0] := hV 7 (Nat.le_of_ble_eq_true rfl)
          have d37 : (fun (w : World) (v : Value) => ∃ A c, v = .slice A 8 c ∧ 8 ≤ c ∧ (Kd.int .u8).C w A 8 (cellN x0 y0)) z2 (vs 8) := hV 8 (Nat.le_of_ble_eq_true rfl)
          have d38 : (fun (w : World) (v : Value) => ∃ A, v = .slice A 3 3 ∧ (Kd.slice 5 (Kd.int .u8)).C w A 3 [W0, [pi], cellN x0 y0]) z2 (vs 9) := hV 9 (Nat.le_of_ble_eq_true rfl)
          have d39 : (fun (w : World) (v : Value) => BvC w (W0 ++ (pi :: cellN x0 y0)) v) z2 (vs 10) := hV 10 (Nat.le_of_ble_eq_true rfl)
          have d3 : (fun (w : World) (v : Value) => BvC w (W0 ++ (pi :: cellN x0 y0)) v) z2 (vs 11) := hV 11 (Nat.le_of_ble_eq_true rfl)
          clear hV
          simp only [putAll]
          rw [d29, d30, d31, d32, d33, d34, d36]
          clear d29 d30 d31 d32 d33 d34 d36
          generalize vs 6 = v35 at *
          generalize vs 8 = v37 at *
          generalize vs 9 = v38 at *
          generalize vs 10 = v39 at *
          generalize vs 11 = v3 at *
          clear vs
          simp only [Act.put, List.setIfInBounds_toArray, List.set_cons_zero, List.set_cons_succ]
          have HE : Aside0 (BvC z2 (dHead tk hs n ++ dRows (P.take (i + 1)) (C.take (i + 1))) v3 ∧ Below gd w z2 ∧ gd < z2.heap.size ∧ z2.heap[gd]? = some (.cells #[.int .u32 tk, .int .u32 hs, .slice A n c, .slice (some adc) m c2] 37 (0, 0))) := ⟨by
            rw [HROW.out, ← List.append_assoc, HW0.out]
            exact ⟨d3, HB0.out.trans (hb3.mono (Nat.le_of_lt GSZ.out)), Nat.lt_of_lt_of_le GSZ.out hb3.size, blk_below GD0.out hb3⟩⟩
          clear d3 hb3 d35 d37 d38 d39
          go_wp2_with fail
          go_roundw
          case rel => exact ⟨i + 1, by omega, by rw [next64 (by have := HPC.out; omega)], HE⟩
          case measure => rw [next64 (by have := HPC.out; omega)]; simp [intOf]; omega
      · obtain rfl : i = m := by omega
        have d1 : decide (i < i) = false := decide_eq_false (by omega)
        have HE : Aside0 (dHead tk hs n ++ dRows (P.take i) (C.take i) = dBytes tk hs P C) := ⟨by unfold dBytes; rw [List.take_of_length_le (by rw [HPC.out.1]; have := HPC.out; omega), List.take_of_length_le (by rw [HPC.out.2.1]; omega), HPC.out.1]⟩
        rw [HE.out] at H
        generalize hdw : dBytes tk hs P C = dw at *
        go_wp2_with fail
        go_ret
        rw [HGD.out]
        exact ⟨_, rfl, by first | exact H.out.1 | (rw [hdw]; exact H.out.1), H.out.2.1⟩
end Go.Proofs.Yticpjidcgaaldaa

namespace Go.Proofs.Yticpjidcgaaldaa
open Go.RowKit Go.Proofs.YticpjidcgaaldaaW.PrintWords Go.Proofs.YticpjidcgaaldaaW.PrintLast Go.Proofs.YticpjidcgaaldaaW.PrintMore
set_option linter.unusedVariables false
set_option linter.unusedSimpArgs false

def RSt (B gd : Nat) (w0 w : World) (tk hs : Int) (vP vC uP uC : Value) (P : List Int) (C : List S97) : Prop :=
  Hp B w0 w [(gd, .cells #[.int .u32 tk, .int .u32 hs, vP, vC] 37 (0, 0)), (B, .cells #[.int .u32 0, .int .u32 0, .slice none 0 0, .slice none 0 0] 37 (0, 0))] [] ∧
    (Kd.int .u8).R 5 w B (fun _ => True) uP P ∧ k97.R 97 w B (fun _ => True) uC C ∧ B ≤ gd
section
variable {B gd : Nat} {w0 w w' : World} {tk hs : Int} {vP vC uP uC u : Value} {P : List Int} {C : List S97}
theorem RSt.le (h : RSt B gd w0 w tk hs vP vC uP uC P C) : B ≤ w.heap.size := Nat.le_trans h.2.2.2 (Nat.le_of_lt (h.1.lt (i := 0) rfl))
theorem RSt.below (h : RSt B gd w0 w tk hs vP vC uP uC P C) (hb : Below w.heap.size w w') : RSt B gd w0 w' tk hs vP vC uP uC P C :=
  ⟨h.1.call hb, Kd.R_below h.2.1 hb, Kd.R_below h.2.2.1 hb, h.2.2.2⟩
theorem RSt.cellP (h : RSt B gd w0 w tk hs vP vC uP uC P C) : w.cell? ⟨gd, 2, none⟩ = some vP := blk_cell (h.1.get (i := 0) rfl) 2
theorem RSt.cellC (h : RSt B gd w0 w tk hs vP vC uP uC P C) : w.cell? ⟨gd, 3, none⟩ = some vC := blk_cell (h.1.get (i := 0) rfl) 3
theorem RSt.rowP {P' : List Int} (h : RSt B gd w0 w tk hs vP vC uP uC P C) (hg : w.grownBy w' uP.ownBlock) (hr : (Kd.int .u8).R 5 w' B (fun _ => True) u P') : RSt B gd w0 w' tk hs vP vC u uC P' C := by
  have hle := h.le
  obtain ⟨h2, h3, h4, h5⟩ := h
  have hbase : ∀ k, uP.ownBlock = some k → B ≤ k := fun k hk => Kd.R_base h3 k hk
  have hb : Below B w w' := (Below.refl B w).grown hg hle hbase
  have n1 := Kd.R_ne h3 (h2.get (i := 0) rfl) (by decide)
  have n2 := Kd.R_ne h3 (h2.get (i := 1) rfl) (by decide)
  refine ⟨h2.rows (r1 := uP.ownBlock) (r2 := none) hb ((hg.block gd (h2.lt (i := 0) rfl) n1).trans (h2.get (i := 0) rfl)) (fun k hk _ hn _ => hg.block k hk hn) (fun p hp => ?_), hr, Kd.R_grown2 h4 rfl hg (fun k hk => ?_), h5⟩
  · obtain rfl := List.mem_singleton.1 hp
    exact ⟨n2, by simp⟩
  · intro e
    exact ((Kd.R_apartR h3 h4 (by decide)).1 k hk).2 (by rw [e])
theorem RSt.rowC {C' : List S97} (h : RSt B gd w0 w tk hs vP vC uP uC P C) (hg : w.grownBy w' uC.ownBlock) (hr : k97.R 97 w' B (fun _ => True) u C') : RSt B gd w0 w' tk hs vP vC uP u P C' := by
  have hle := h.le
  obtain ⟨h2, h3, h4, h5⟩ := h
  have hbase : ∀ k, uC.ownBlock = some k → B ≤ k := fun k hk => Kd.R_base h4 k hk
  have hb : Below B w w' := (Below.refl B w).grown hg hle hbase
  have n1 := Kd.R_ne h4 (h2.get (i := 0) rfl) (by decide)
  have n2 := Kd.R_ne h4 (h2.get (i := 1) rfl) (by decide)
  refine ⟨h2.rows (r1 := uC.ownBlock) (r2 := none) hb ((hg.block gd (h2.lt (i := 0) rfl) n1).trans (h2.get (i := 0) rfl)) (fun k hk _ hn _ => hg.block k hk hn) (fun p hp => ?_), Kd.R_grown2 h3 rfl hg (fun k hk => ?_), hr, h5⟩
  · obtain rfl := List.mem_singleton.1 hp
    exact ⟨n2, by simp⟩
  · intro e
    exact ((Kd.R_apartR h3 h4 (by decide)).1 k (by rw [← e])).2 hk.symm
theorem RSt.setP (h : RSt B gd w0 w tk hs vP vC uP uC P C) : RSt B gd w0 (w.setCell ⟨gd, 2, none⟩ uP) tk hs uP vC uP uC P C := by
  obtain ⟨h2, h3, h4, h5⟩ := h
  have n1 := Kd.R_ne h3 (h2.get (i := 0) rfl) (by decide)
  have n2 := Kd.R_ne h4 (h2.get (i := 0) rfl) (by decide)
  exact ⟨h2.setCell (i := 0) rfl 2 uP, Kd.R_grown2 h3 rfl (grown_setCell _ _ _ _) (fun k hk => by cases hk; exact n1), Kd.R_grown2 h4 rfl (grown_setCell _ _ _ _) (fun k hk => by cases hk; exact n2), h5⟩
theorem RSt.setC (h : RSt B gd w0 w tk hs vP vC uP uC P C) : RSt B gd w0 (w.setCell ⟨gd, 3, none⟩ uC) tk hs vP uC uP uC P C := by
  obtain ⟨h2, h3, h4, h5⟩ := h
  have n1 := Kd.R_ne h3 (h2.get (i := 0) rfl) (by decide)
  have n2 := Kd.R_ne h4 (h2.get (i := 0) rfl) (by decide)
  exact ⟨h2.setCell (i := 0) rfl 3 uC, Kd.R_grown2 h3 rfl (grown_setCell _ _ _ _) (fun k hk => by cases hk; exact n1), Kd.R_grown2 h4 rfl (grown_setCell _ _ _ _) (fun k hk => by cases hk; exact n2), h5⟩
end
theorem value_l0 (l : List Int) (hl : l.length ≤ 8) (hb : Bytes l) : ∀ (i k : Nat) (acc : Int), i ≤ l.length → i < k → acc = leN (l.drop i) → hoodwinkref01_Value.l0 k l acc (wrap64 ((i : Int) - 1)) = some (leN l)
  | 0, k + 1, acc, hi, hk, ha => by
    unfold hoodwinkref01_Value.l0
    rw [if_neg (by unfold wrap64; omega), ha]
    simp
  | i + 1, k + 1, acc, hi, hk, ha => by
    have hlt : i < l.length := by omega
    have e1 : wrap64 (((i + 1 : Nat) : Int) - 1) = (i : Int) := by unfold wrap64; omega
    unfold hoodwinkref01_Value.l0
    rw [e1]
    have hx := hb _ (List.getElem_mem hlt)
    have h1 := leN_bd (fun x hx => hb x (List.mem_of_mem_drop hx) : Bytes (l.drop (i + 1)))
    have h2 : (256 : Int) ^ (l.drop (i + 1)).length ≤ 72057594037927936 := by
      have h3 : (l.drop (i + 1)).length ≤ 7 := by rw [List.length_drop]; omega
      generalize (l.drop (i + 1)).length = j at h3 ⊢
      match j, h3 with
      | 0, _ => decide
      | 1, _ => decide
      | 2, _ => decide
      | 3, _ => decide
      | 4, _ => decide
      | 5, _ => decide
      | 6, _ => decide
      | 7, _ => decide
    rw [← ha] at h1
    rw [if_pos (by omega), if_pos (by omega), if_pos (by omega), rd_getElem hlt, IntWalk.u64_in (256 * acc) (by omega), IntWalk.u64_in l[i] (by omega), IntWalk.u64_in _ (by omega)]
    refine value_l0 l hl hb i k _ (by omega) (by omega) ?_
    rw [List.drop_eq_getElem_cons hlt, ha]
    simp only [leN]
    omega
theorem value_any (A : Option Addr) (n c : Nat) (l : List Int) (w : World) (hr : (Kd.int .u8).C w A n l) (hc : n ≤ c) (hn : n ≤ 8) (hb : Bytes l) :
    Calls Try.prog 51 #[.slice A n c] w fun e w' => e = .returned (.int .u64 (leN l)) ∧ Drawn0 w w' := by
  obtain rfl := hr.1
  exact hoodwinkref01_Value.calls (l.length + 1) A c l _ w hr hc (value_l0 l hn hb l.length (l.length + 1) 0 (Nat.le_refl _) (by omega) (by rw [List.drop_of_length_le (Nat.le_refl _)]; rfl))
end Go.Proofs.Yticpjidcgaaldaa

namespace Go.Proofs.Yticpjidcgaaldaa
open Go.RowKit Go.Proofs.YticpjidcgaaldaaW.PrintWords Go.Proofs.YticpjidcgaaldaaW.PrintLast Go.Proofs.YticpjidcgaaldaaW.PrintMore
set_option linter.unusedVariables false
set_option linter.unusedSimpArgs false

theorem cut_h {P : Program} (k kh : IntKind) (t e bytes : Nat) (ht : P.underlying t = some (.slice e)) (hinfo : (P.info? e).map (fun i => (i.zero, i.size, i.bytes)) = some (some (.int k 0), 1, bytes)) (A : Option Addr) (n c j : Nat) (hj : j ≤ n) (hc : n ≤ c) :
    (∀ W : World, (Instr.slice t (.slice A n c) none (some (.int kh (j : Int))) none).run P W = .ok (.slice A j c) W) ∧
      (∀ (w : World) (xs : List Int), (Kd.int k).C w A n xs → (Kd.int k).C w A j (xs.take j)) := by
  obtain ⟨i0, hi, hzz⟩ := Option.map_eq_some_iff.1 hinfo
  simp only [Prod.mk.injEq] at hzz
  have hel : P.elem t = e := by simp [Program.elem, ht]
  have hu : P.underlying t = some (.slice (P.elem t)) := by rw [hel]; exact ht
  have ha : (A.map fun x => x.add 0) = A := by cases A <;> simp [Addr.add]
  refine ⟨fun W => ?_, fun w xs h => ?_⟩
  · rw [run_slice_h W t A n c hu kh (j : Int) (Int.natCast_nonneg _) (by omega), hel]
    simp [sizeOf, typeInfo, hi, hzz.2.1, sliced, Result.andThen, ha]
  · obtain rfl := h.1
    exact Kd.C_of_reads ((Kd.reads_of_C (d := (0 : Int)) h).take_ j hj)
def RfR (b : Nat) (w : World) (tk hs : Int) (P : List Int) (R : List S97) (v : Value) : Prop :=
  ∃ A c A2 c2, v = .agg #[.int .u32 tk, .int .u32 hs, .slice A P.length c, .slice A2 R.length c2] ∧ P.length ≤ c ∧ R.length ≤ c2 ∧ (Kd.int .u8).R 5 w b (fun _ => True) (.slice A P.length c) P ∧ k97.R 97 w b (fun _ => True) (.slice A2 R.length c2) R
theorem RfR.belowR {b : Nat} {w w' : World} {tk hs : Int} {P : List Int} {C : List S97} {v : Value} (h : RfR b w tk hs P C v) (hb : Below w.heap.size w w') : RfR b w' tk hs P C v := by
  obtain ⟨A, c, A2, c2, e, h1, h2, h3, h4⟩ := h
  exact ⟨A, c, A2, c2, e, h1, h2, Kd.R_below h3 hb, Kd.R_below h4 hb⟩
theorem RfR.setRowB {b g T : Nat} {w : World} {tk hs : Int} {P : List Int} {C : List S97} {v : Value} {cur cs : Array Value} (h : RfR b w tk hs P C v) (hg : w.heap[g]? = some (.cells cur T (0, 0))) (h1 : 5 ≠ T) (h2 : 97 ≠ T) : RfR b (w.setRow g cs) tk hs P C v := by
  obtain ⟨A, c, A2, c2, e, k1, k2, h3, h4⟩ := h
  exact ⟨A, c, A2, c2, e, k1, k2, Kd.R_grown2 h3 rfl (grown_setRow _ _ _) (fun k hk => by cases hk; exact Kd.R_ne h3 hg h1), Kd.R_grown2 h4 rfl (grown_setRow _ _ _) (fun k hk => by cases hk; exact Kd.R_ne h4 hg h2)⟩
theorem RfR.cells {b : Nat} {w : World} {tk hs : Int} {P : List Int} {C : List S97} {v : Value} (h : RfR b w tk hs P C v) : DrC w tk hs P C v := by
  obtain ⟨A, c, A2, c2, e, k1, k2, h3, h4⟩ := h
  exact ⟨A, c, A2, c2, e, k1, k2, (Ru_C h3).2.2, (Ru_C h4).2.2⟩
theorem headD_get (l : List Int) (h : 0 < l.length) : l.headD 0 = l[0] := by
  cases l with
  | nil => simp at h
  | cons a l => rfl
def lenV : Value → Nat
  | .slice _ l _ => l
  | _ => 0
theorem zero_rdelta (w : World) : (zeroValue 37).run Try.prog w = .ok (.agg #[.int .u32 0, .int .u32 0, .slice none 0 0, .slice none 0 0]) w := by kernel_rfl

end Go.Proofs.Yticpjidcgaaldaa

namespace Go.Proofs.Yticpjidcgaaldaa
open Go.RowKit Go.Proofs.YticpjidcgaaldaaW.PrintWords Go.Proofs.YticpjidcgaaldaaW.PrintLast Go.Proofs.YticpjidcgaaldaaW.PrintMore
set_option linter.unusedVariables false
set_option linter.unusedSimpArgs false

end Go.Proofs.Yticpjidcgaaldaa

namespace Go.Proofs.Yticpjidcgaaldaa
open Go.RowKit Go.Proofs.YticpjidcgaaldaaW.PrintWords Go.Proofs.YticpjidcgaaldaaW.PrintLast Go.Proofs.YticpjidcgaaldaaW.PrintMore
set_option linter.unusedVariables false
set_option linter.unusedSimpArgs false

end Go.Proofs.Yticpjidcgaaldaa

namespace Go.Proofs.Yticpjidcgaaldaa
open Go.RowKit Go.Proofs.YticpjidcgaaldaaW.PrintWords Go.Proofs.YticpjidcgaaldaaW.PrintLast Go.Proofs.YticpjidcgaaldaaW.PrintMore
set_option linter.unusedVariables false
set_option linter.unusedSimpArgs false

theorem cut_l0 (l : List Int) (m : Nat) (hl : min m l.length < 140737488355328) (hn : l.length ≤ 9223372036854775807) : ∀ (d k i : Nat), i + d = l.length → d < k →
    hoodwinkref01_Cut.l0 k (m : Int) (l.take (min i m)) l (l.length : Int) (i : Int) = some (l.take m)
  | 0, k, i, hi, hk => by
    obtain ⟨k, rfl⟩ : ∃ q, k = q + 1 := ⟨k - 1, by omega⟩
    simp only [hoodwinkref01_Cut.l0]
    rw [if_neg (by omega), takes (by omega : min (min i m) l.length = min m l.length)]
  | d + 1, k, i, hi, hk => by
    obtain ⟨k, rfl⟩ : ∃ q, k = q + 1 := ⟨k - 1, by omega⟩
    have hil : i < l.length := by omega
    have ih := cut_l0 l m hl hn d k (i + 1) (by omega) (by omega)
    simp only [hoodwinkref01_Cut.l0]
    rw [if_pos (by omega), if_pos (by omega), if_pos (by omega), next64 (by omega)]
    by_cases h : i < m
    · rw [if_pos (by omega), if_pos (by rw [List.length_take]; omega), rd_getElem hil, ← ih]
      rw [show min i m = i by omega, show min (i + 1) m = i + 1 by omega, take_snoc hil]
    · rw [if_neg (by omega), ← ih, show min (i + 1) m = min i m by omega]
theorem cut_f (l : List Int) (m : Int) (hm : 0 ≤ m) (hl : m ≤ 140737488351232) (hn : l.length ≤ 9223372036854775807) : hoodwinkref01_Cut.f (l.length + 1) l m = some (l.take m.toNat) := by
  have := cut_l0 l m.toNat (by omega) hn l.length (l.length + 1) 0 (by omega) (by omega)
  rw [Int.toNat_of_nonneg hm] at this
  simpa [hoodwinkref01_Cut.f] using this
theorem cut_any (A : Option Addr) (n c : Nat) (l : List Int) (m : Int) (w : World) (hr : (Kd.int .u8).C w A n l) (hc : n ≤ c) (hm : 0 ≤ m ∧ m ≤ 140737488351232) :
    Calls Try.prog 12 #[.slice A n c, .int .i64 m] w fun e w' => ∃ v, e = .returned v ∧ (Kd.int .u8).R 5 w' w.heap.size (fun _ => True) v (l.take m.toNat) ∧ Below w.heap.size w w' := by
  have hn := hr.2.1
  obtain rfl := hr.1
  exact hoodwinkref01_Cut.calls (l.length + 1) A c l m _ w hr hc (cut_f l m hm.1 hm.2 hn)
end Go.Proofs.Yticpjidcgaaldaa

namespace Go.Proofs.Yticpjidcgaaldaa
open Go.RowKit Go.Proofs.YticpjidcgaaldaaW.PrintWords Go.Proofs.YticpjidcgaaldaaW.PrintLast Go.Proofs.YticpjidcgaaldaaW.PrintMore
set_option linter.unusedVariables false
set_option linter.unusedSimpArgs false

theorem Hp.grow {B : Nat} {w0 W W1 : World} {L : List (Nat × Obj)} {r : Option Nat} (h : Hp B w0 W L []) (hg : W.grownBy W1 r) (hbase : ∀ k, r = some k → B ≤ k) (hr : ∀ p ∈ L, some p.1 ≠ r) : Hp B w0 W1 L [] := by
  have hb : Below B W W1 := (Below.refl B W).grown hg h.le hbase
  exact ⟨h.1.trans hb, fun p hp => ⟨(hg.block p.1 (blk_lt (h.2.1 p hp).1) (hr p hp)).trans (h.2.1 p hp).1, (h.2.1 p hp).2⟩, h.2.2.1, Nat.le_trans h.le hb.size, fun φ hφ => by cases hφ⟩
def TG (w w' : World) : Prop := ∃ x, w.grownBy w' x ∧ ∀ b, x = some b → ∃ cs T fr, w.heap[b]? = some (.cells cs T fr) ∧ 5 ≠ T ∧ fr = (0, 0)
theorem TG.row {w w' : World} {b : Nat} {v : Value} {P : List Int} (ht : TG w w') (h : (Kd.int .u8).R 5 w b (fun _ => True) v P) : (Kd.int .u8).R 5 w' b (fun _ => True) v P := by
  obtain ⟨x, hx, hn⟩ := ht
  refine Kd.R_grown2 h rfl hx fun k hk => ?_
  obtain ⟨cs, T, fr, h1, h2, rfl⟩ := hn k hk
  exact Kd.R_ne h h1 h2
def SSt (B : Nat) (w0 w : World) (tk hs : Int) (vP vC : Value) : Prop :=
  Hp B w0 w [(B + 1, .cells #[.int .u32 0, .int .u32 0, .slice none 0 0, .slice none 0 0] 26 (0, 0)), (B, .cells #[.int .u32 tk, .int .u32 hs, vP, vC] 26 (0, 0))] []
theorem SSt.below {B : Nat} {w0 w w' : World} {tk hs : Int} {vP vC : Value} (h : SSt B w0 w tk hs vP vC) (hb : Below w.heap.size w w') : SSt B w0 w' tk hs vP vC := Hp.call h hb

end Go.Proofs.Yticpjidcgaaldaa

namespace Go.Proofs.Yticpjidcgaaldaa
open Go.RowKit Go.Proofs.YticpjidcgaaldaaW.PrintWords Go.Proofs.YticpjidcgaaldaaW.PrintLast Go.Proofs.YticpjidcgaaldaaW.PrintMore
set_option linter.unusedVariables false
set_option linter.unusedSimpArgs false

theorem cellB_len8 (y : S59) : (cellB true y).length = 8 := by unfold cellB; rw [if_pos rfl, List.length_append, lowN_length, lowN_length]
theorem dRows_cons (x : Int) (y : S59) (P : List Int) (C : List S59) : dRows (x :: P) (y :: C) = (x :: cellB true y) ++ dRows P C := by
  unfold dRows
  simp [dCell]
theorem drop_len (h r : List Int) (k : Nat) : (h ++ r).drop (h.length + k) = r.drop k := by rw [← List.drop_drop, List.drop_left]
theorem rowP_next {h r : List Int} (hl : h.length = 9) (i : Nat) : rowP (h ++ r) (i + 1) = rowP r i := by
  unfold rowP
  rw [show 9 * (i + 1) = h.length + 9 * i by omega, drop_len]
theorem rowC_next {h r : List Int} (hl : h.length = 9) (i : Nat) : rowC (h ++ r) (i + 1) = rowC r i := by
  unfold rowC
  rw [show 9 * (i + 1) + 1 = h.length + (9 * i + 1) by omega, show 9 * (i + 1) + 5 = h.length + (9 * i + 5) by omega, drop_len, drop_len]
theorem pL_cons {h r : List Int} (hl : h.length = 9) (k : Nat) : pL (h ++ r) (k + 1) = rowP (h ++ r) 0 :: pL r k := by
  unfold pL
  rw [List.range_succ_eq_map, List.map_cons, List.map_map]
  congr 1
  exact List.map_congr_left fun i _ => rowP_next hl i
theorem cL_cons {h r : List Int} (hl : h.length = 9) (k : Nat) : cL (h ++ r) (k + 1) = rowC (h ++ r) 0 :: cL r k := by
  unfold cL
  rw [List.range_succ_eq_map, List.map_cons, List.map_map]
  congr 1
  exact List.map_congr_left fun i _ => rowC_next hl i
theorem leN_low : ∀ (s x : Nat), x < 256 ^ s → leN (lowN x s) = (x : Int)
  | 0, x, h => by
    have : x = 0 := by simpa using h
    subst this; rfl
  | s + 1, x, h => by
    have h1 : x / 256 < 256 ^ s := by rw [Nat.pow_succ] at h; exact Nat.div_lt_of_lt_mul (by omega)
    have := leN_low s (x / 256) h1
    simp only [lowN, leN, this]
    omega
def I32p (n : Int) : Prop := -2147483648 ≤ n ∧ n < 2147483648
theorem row0 (x : Int) (y : S59) (r : List Int) (h0 : I32p y.f0) (h1 : U32 y.f1) : rowP ((x :: cellB true y) ++ r) 0 = x ∧ rowC ((x :: cellB true y) ++ r) 0 = y := by
  refine ⟨rfl, ?_⟩
  unfold rowC cellB
  rw [if_pos rfl]
  have e1 : (((x :: (lowN (y.f0 % 4294967296).toNat 4 ++ lowN y.f1.toNat 4)) ++ r).drop (9 * 0 + 1)).take 4 = lowN (y.f0 % 4294967296).toNat 4 := by
    show ((lowN (y.f0 % 4294967296).toNat 4 ++ lowN y.f1.toNat 4) ++ r).take 4 = _
    rw [List.append_assoc, List.take_append_of_le_length (by rw [lowN_length]; omega), List.take_of_length_le (by rw [lowN_length]; omega)]
  have e2 : (((x :: (lowN (y.f0 % 4294967296).toNat 4 ++ lowN y.f1.toNat 4)) ++ r).drop (9 * 0 + 5)).take 4 = lowN y.f1.toNat 4 := by
    show (((lowN (y.f0 % 4294967296).toNat 4 ++ lowN y.f1.toNat 4) ++ r).drop 4).take 4 = _
    have e4 : (4 : Nat) = (lowN (y.f0 % 4294967296).toNat 4).length := (lowN_length _ _).symm
    rw [List.append_assoc]
    have e5 : (lowN (y.f0 % 4294967296).toNat 4 ++ (lowN y.f1.toNat 4 ++ r)).drop 4 = lowN y.f1.toNat 4 ++ r := List.drop_left' (lowN_length _ _)
    rw [e5, List.take_append_of_le_length (by rw [lowN_length]; omega), List.take_of_length_le (by rw [lowN_length]; omega)]
  rw [e1, e2]
  unfold I32p at h0
  unfold U32 at h1
  rw [leN_low 4 _ (by omega), leN_low 4 _ (by omega)]
  obtain ⟨a, b⟩ := y
  simp only at h0 h1 ⊢
  congr 1
  · unfold wrap32; omega
  · omega
theorem rows_back : ∀ (P : List Int) (C : List S59), P.length = C.length → (∀ y ∈ C, I32p y.f0 ∧ U32 y.f1) → (dRows P C).length = 9 * P.length ∧ pL (dRows P C) P.length = P ∧ cL (dRows P C) P.length = C
  | [], [], _, _ => ⟨rfl, rfl, rfl⟩
  | x :: P, y :: C, h, hU => by
    have hl : (x :: cellB true y).length = 9 := by rw [List.length_cons, cellB_len8]
    obtain ⟨k1, k2, k3⟩ := rows_back P C (by simpa using h) (fun z hz => hU z (List.mem_cons_of_mem _ hz))
    obtain ⟨r1, r2⟩ := row0 x y (dRows P C) (hU y List.mem_cons_self).1 (hU y List.mem_cons_self).2
    rw [dRows_cons, List.length_cons, pL_cons hl, cL_cons hl, r1, r2, k2, k3]
    refine ⟨?_, rfl, rfl⟩
    rw [List.length_append, hl, k1]; omega
theorem parse_back (tk hs : Nat) (P : List Int) (C : List S59) (hr : rightB P C.length = true) (htk : tk < 4294967296) (hhs : hs < 4294967296) (hU : ∀ y ∈ C, I32p y.f0 ∧ U32 y.f1) :
    okD (dBytes tk hs P C) = true ∧ leN ((dBytes tk hs P C).take 4) = tk ∧ leN (((dBytes tk hs P C).drop 4).take 4) = hs ∧ pL ((dBytes tk hs P C).drop 9) (cntD (dBytes tk hs P C)) = P ∧ cL ((dBytes tk hs P C).drop 9) (cntD (dBytes tk hs P C)) = C := by
  obtain ⟨hr1, hr2⟩ : risB (-1) P = true ∧ P.length = C.length := by
    unfold rightB at hr
    simp only [Bool.and_eq_true, beq_iff_eq] at hr
    exact hr
  obtain ⟨q1, q2, q3⟩ := risB_le (by omega) (by omega) hr1
  obtain ⟨k1, k2, k3⟩ := rows_back P C hr2 hU
  have hn : P.length % 256 = P.length := Nat.mod_eq_of_lt (by omega)
  have hd : dBytes tk hs P C = lowN tk 4 ++ (lowN hs 4 ++ ((P.length : Int) :: dRows P C)) := by
    unfold dBytes dHead
    rw [hn]; simp
  have e4 : (dBytes tk hs P C).drop 4 = lowN hs 4 ++ ((P.length : Int) :: dRows P C) := by rw [hd]; exact List.drop_left' (lowN_length _ _)
  have e8 : (dBytes tk hs P C).drop 8 = (P.length : Int) :: dRows P C := by
    rw [show (8 : Nat) = 4 + 4 from rfl, ← List.drop_drop, e4]; exact List.drop_left' (lowN_length _ _)
  have e9 : (dBytes tk hs P C).drop 9 = dRows P C := by rw [show (9 : Nat) = 8 + 1 from rfl, ← List.drop_drop, e8]; rfl
  have hc : cntD (dBytes tk hs P C) = P.length := by unfold cntD; rw [e8]; simp
  have hlen : (dBytes tk hs P C).length = 9 + 9 * P.length := by
    rw [hd]; simp only [List.length_append, List.length_cons, lowN_length, k1]; omega
  refine ⟨?_, ?_, ?_, by rw [e9, hc, k2], by rw [e9, hc, k3]⟩
  · unfold okD
    rw [e9, hc, k2, hr1, Bool.and_true]
    exact decide_eq_true ⟨by omega, hlen⟩
  · rw [hd, List.take_left' (lowN_length _ _), leN_low 4 _ (by omega)]
  · rw [e4, List.take_left' (lowN_length _ _), leN_low 4 _ (by omega)]
end Go.Proofs.Yticpjidcgaaldaa

namespace Go.Proofs.Yticpjidcgaaldaa
open Go.RowKit Go.Proofs.YticpjidcgaaldaaW.PrintWords Go.Proofs.YticpjidcgaaldaaW.PrintLast Go.Proofs.YticpjidcgaaldaaW.PrintMore
set_option linter.unusedVariables false
set_option linter.unusedSimpArgs false

structure S26 where
  f0 : Int
  f1 : Int
  f2 : List Int
  f3 : List S59
def k26 : Kd S26 := Kd.iso (Kd.pair (Kd.int .u32) (Kd.pair (Kd.int .u32) (Kd.pair (Kd.slice 5 (Kd.int .u8)) (Kd.slice 59 k59)))) (fun x : S26 => (x.f0, x.f1, x.f2, x.f3))
def OkD (x : S26) : Prop := (Lit.int .u32 x.f0).wf = true ∧ (Lit.int .u32 x.f1).wf = true ∧ (∀ y ∈ x.f2, (Lit.int .u8 y).wf = true) ∧ ∀ y ∈ x.f3, OkC y
theorem delta_in {w : World} {x : S26} {cs : List Value} (h : k26.K w x cs) : DvC w x.f0 x.f1 x.f2 x.f3 (.agg cs.toArray) := by
  obtain ⟨_, _, rfl, rfl, _, _, rfl, rfl, _, _, rfl, ⟨A, c, rfl, h1, h2⟩, ⟨A2, c2, rfl, h3, h4⟩⟩ := h
  exact ⟨A, c, A2, c2, rfl, h1, h3, h2, h4⟩
theorem OkC.i32p {x : S59} (h : OkC x) : I32p x.f0 := by have := bounds_i32 h.1; unfold I32p; omega
def pbD (tk hs : Nat) (P : List Int) (C : List S59) : List Int := if rightB P C.length = true then dBytes tk hs P C else []
theorem pbytes7_any (tk hs : Nat) (P : List Int) (C : List S59) (v : Value) (w : World) (hv : DvC w tk hs P C v) (hP : Bytes P) (hl : P.length < 4611686018427387904) (htk : tk < 4294967296) (hhs : hs < 4294967296) (hU : ∀ x ∈ C, U32 x.f1) :
    Calls Try.prog 41 #[v] w fun e w' => ∃ v', e = .returned v' ∧ (Kd.int .u8).R 5 w' w.heap.size (fun _ => True) v' (pbD tk hs P C) ∧ Below w.heap.size w w' := by
  obtain ⟨A, c, A2, c2, rfl, h2, h3, h4, h5⟩ := hv
  unfold pbD
  by_cases hr : rightB P C.length = true
  · rw [if_pos hr]
    exact dbytes_yes tk hs A A2 _ c _ c2 P C w h4 h2 h5 h3 hr htk hhs hU
  · rw [if_neg hr]
    refine (dbytes_no tk hs A A2 _ c _ c2 P C w h4 h2 h5 h3 hP hl (by simpa using hr)).mono ?_
    rintro e w' ⟨rfl, hb⟩
    exact ⟨_, rfl, Kd.R_nil _ _ _ _ _, hb⟩
theorem dRows_bytes (P : List Int) (C : List S59) (hP : Bytes P) : Bytes (dRows P C) := by
  unfold dRows
  refine Bytes.flatten fun p hp => ?_
  obtain ⟨⟨a, y⟩, hq, rfl⟩ := List.mem_map.1 hp
  unfold dCell
  intro b hb
  rcases List.mem_cons.1 hb with rfl | hb
  · exact hP _ (List.of_mem_zip hq).1
  · exact cellB_bytes true y b hb
theorem dBytes_bytes (tk hs : Nat) (P : List Int) (C : List S59) (hP : Bytes P) : Bytes (dBytes tk hs P C) := by
  unfold dBytes dHead
  refine (((lowN_bytes _ _).append (lowN_bytes _ _)).append fun b hb => ?_).append (dRows_bytes P C hP)
  rw [List.mem_singleton.1 hb]
  have := Nat.mod_lt P.length (show 0 < 256 by omega)
  omega
theorem pbD_bytes (tk hs : Nat) (P : List Int) (C : List S59) (hP : Bytes P) : Bytes (pbD tk hs P C) := by
  unfold pbD; split
  · exact dBytes_bytes tk hs P C hP
  · exact Bytes.nil
theorem dBytes_ge (tk hs : Nat) (P : List Int) (C : List S59) : 9 ≤ (dBytes tk hs P C).length := by
  unfold dBytes dHead
  simp only [List.length_append, lowN_length, List.length_cons, List.length_nil]
  omega
theorem pbD_le (tk hs : Nat) (P : List Int) (C : List S59) : (pbD tk hs P C).length ≤ 9 + 9 * P.length := by
  unfold pbD; split
  · have := dRows_len P C
    unfold dBytes dHead
    simp only [List.length_append, lowN_length, List.length_cons, List.length_nil]
    omega
  · simp
theorem pbD_pos (tk hs : Nat) (P : List Int) (C : List S59) : decide (0 < (pbD tk hs P C).length) = rightB P C.length := by
  unfold pbD
  by_cases hr : rightB P C.length = true
  · rw [if_pos hr, hr]; exact decide_eq_true (by have := dBytes_ge tk hs P C; omega)
  · rw [if_neg hr]
    have : rightB P C.length = false := by simpa using hr
    rw [this]; rfl
def tkQ (q : List Int) : Int := if okD q = true then leN (q.take 4) else 0
def hsQ (q : List Int) : Int := if okD q = true then leN ((q.drop 4).take 4) else 0
def plQ (q : List Int) : List Int := if okD q = true then pL (q.drop 9) (cntD q) else []
def clQ (q : List Int) : List S59 := if okD q = true then cL (q.drop 9) (cntD q) else []
def ecD (q : List Int) : Int := if okD q = true then 0 else 2
theorem clQ_300 (q : List Int) (hq : Bytes q) : (clQ q).length ≤ 300 := by
  unfold clQ
  split
  · rw [cL_len]
    unfold cntD
    cases hx : q.drop 8 with
    | nil => simp
    | cons x l =>
      have := hq x (List.mem_of_mem_drop (by rw [hx]; exact List.mem_cons_self))
      show x.toNat ≤ 300
      omega
  · simp
theorem R_put8 {w : World} {b g n c : Nat} {l : List Int} {j : Nat} {x : Int} (h : (Kd.int .u8).R 5 w b (fun _ => True) (.slice (some ⟨g, 0, none⟩) n c) l) (hj : j < l.length) :
    (Kd.int .u8).R 5 (w.setCell ⟨g, j, none⟩ (.int .u8 x)) b (fun _ => True) (.slice (some ⟨g, 0, none⟩) n c) (l.set j x) := by
  have hown := Kd.own_of_R (enc := Value.int .u8) (h1 := fun _ => rfl) h
  have hn : l.length = n := (Ru_C h).1
  subst hn
  have hst := (own_store (k := .u8) hown (j : Int) x).1
  rw [Int.toNat_natCast] at hst
  exact Kd.R_of_own (enc := Value.int .u8) (h1 := fun _ => rfl) (xs := l.set j x) (by rw [List.length_set]; exact hst) (fun _ _ => trivial)
end Go.Proofs.Yticpjidcgaaldaa

namespace Go.Proofs.Yticpjidcgaaldaa
open Go.RowKit Go.Proofs.YticpjidcgaaldaaW.PrintWords Go.Proofs.YticpjidcgaaldaaW.PrintLast Go.Proofs.YticpjidcgaaldaaW.PrintMore
set_option linter.unusedVariables false
set_option linter.unusedSimpArgs false

theorem take_eq_succ {α : Type} {L M : List α} {i : Nat} (h : L.take i = M.take i) (hl : i < L.length) (hm : i < M.length) (he : L[i] = M[i]) : L.take (i + 1) = M.take (i + 1) := by
  rw [take_snoc hl, take_snoc hm, h, he]
set_option maxRecDepth 100000 in
set_option maxHeartbeats 8000000 in
theorem cequalG_any (A A2 : Option Addr) (n m c c2 : Nat) (L M : List S59) (w00 : World) (h1 : k59.C w00 A n L) (h2 : k59.C w00 A2 m M) (hn : n ≤ 1000000) (hm : m ≤ 1000000) (β : Bool) (hβ : β = true ↔ L = M) :
    Calls Try.prog 76 #[.slice A n c, .slice A2 m c2] w00 fun e w' => e = .returned (.bool β) ∧ Below w00.heap.size w00 w' := by
  by_cases hnm : n = m
  · subst hnm
    have HL := Aside0.mk (And.intro h1.1 h2.1)
    have HN := Aside0.mk hn
    have HF : Aside0 (∀ z, Below w00.heap.size w00 z → k59.C z A n L ∧ k59.C z A2 n M) := ⟨fun z hz => ⟨Kd.C_below h1 hz, Kd.C_below h2 hz⟩⟩
    clear h1 h2 hn hm
    obtain ⟨B, hB⟩ : ∃ B, w00.heap.size = B := ⟨_, rfl⟩
    have HB := Aside0.mk hB
    rw [hB] at HF
    rw [hB]
    have HBE := Aside0.mk hβ
    clear hB hβ
    go_enter Try.func76, Try.ntmps76
    go_wp2_with fail
    have H0 : Aside0 (Below B w00 w00 ∧ B ≤ w00.heap.size ∧ L.take 0 = M.take 0) := ⟨Below.refl _ _, by rw [HB.out]; exact Nat.le_refl _, rfl⟩
    go_loopw [13] (fun v13 wr => ∃ i : Nat, i ≤ n ∧ v13 = .int .i64 i ∧ Aside0 (Below B w00 wr ∧ B ≤ wr.heap.size ∧ L.take i = M.take i)) (fun v13 _ => n - (intOf v13).toNat)
    case atStart => exact ⟨0, by omega, rfl, H0⟩
    case round =>
      clear H0
      obtain ⟨i, hi, rfl, H⟩ := hrel
      by_cases hlt : i < n
      · have d1 : decide (i < n) = true := decide_eq_true hlt
        have hiL : i < L.length := by rw [HL.out.1]; exact hlt
        have hiM : i < M.length := by rw [HL.out.2]; exact hlt
        obtain ⟨a, hA, p0, p1⟩ := cell_at25 (HF.out wr H.out.1).1 hiL
        obtain ⟨a2, hA2, q0, q1⟩ := cell_at25 (HF.out wr H.out.1).2 hiM
        subst hA hA2
        have HX : Aside0 (L = M → L[i] = M[i]) := ⟨fun e => by subst e; rfl⟩
        have HY : Aside0 (L[i] = M[i] → L.take (i + 1) = M.take (i + 1)) := ⟨fun e => take_eq_succ H.out.2.2 hiL hiM e⟩
        generalize L[i] = x at p0 p1 HX HY
        generalize M[i] = y at q0 q1 HX HY
        obtain ⟨x0, x1⟩ := x
        obtain ⟨y0, y1⟩ := y
        have hi0 : (0 : Int) ≤ i := by omega
        have hin : (i : Int) < n := by omega
        have PP := Aside0.mk (And.intro p0 (And.intro p1 (And.intro q0 q1)))
        clear p0 p1 q0 q1
        obtain ⟨ν, hν⟩ : ∃ ν : Bool, ν = !(x0 == y0 && x1 == y1) := ⟨_, rfl⟩
        have HNU := Aside0.mk hν
        clear hν
        go_wp2_with fail
        refine region_grown (W := wr)
          [fun (w : World) (v : Value) => v = .slice (some a) n c,
           fun (w : World) (v : Value) => v = .int .i64 i,
           fun (w : World) (v : Value) => v = .pointer (some (a.add (i * 2))),
           fun (w : World) (v : Value) => v = .agg #[.int .i32 x0, .int .u32 x1],
           fun (w : World) (v : Value) => v = .slice (some a2) n c2,
           fun (w : World) (v : Value) => v = .int .i64 i,
           fun (w : World) (v : Value) => v = .pointer (some (a2.add (i * 2))),
           fun (w : World) (v : Value) => v = .agg #[.int .i32 y0, .int .u32 y1],
           fun (w : World) (v : Value) => v = .bool ν]
          (fun j =>  none)
          [(0, some 16), (1, some 17), (2, some 18), (3, some 19), (4, some 20), (5, some 21), (6, some 22), (7, some 23), (8, some 24)]
          []
          (by kernel_rfl) (by kernel_rfl) (by kernel_rfl) (by kernel_rfl) ?r6_1g ?r6_1s ⟨?r6_1o0, ?r6_1o1, ?r6_1o2, ?r6_1o3, ?r6_1o4, ?r6_1o5, ?r6_1o6, ?r6_1o7, ?r6_1o8, trivial⟩ ?r6_1e
        case r6_1g =>
          intro j hj; cases hj
        case r6_1s =>
          refine ⟨(fun w w' v hb h => h), (fun w w' v hb h => h), (fun w w' v hb h => h), (fun w w' v hb h => h), (fun w w' v hb h => h), (fun w w' v hb h => h), (fun w w' v hb h => h), (fun w w' v hb h => h), (fun w w' v hb h => h), trivial⟩
        case r6_1o0 =>
          intro vs w hb hV
          rw [if_pos (by kernel_rfl)]
          generalize hρ : rho _ _ _ vs = ρ
          have e0 : ρ (.tmp 0) = .slice (some a) n c := by rw [← hρ]; kernel_rfl
          clear hρ hV
          refine runs_val (v := .slice (some a) n c) (w' := w) ?_ ⟨Below.refl _ _, rfl⟩
          go_simp <;> (first | exact IntWalk.u64_in _ (by omega) | exact IntWalk.u32_in _ (by omega) | exact IntWalk.u16_in _ (by omega) | exact IntWalk.u8_in _ (by omega) | exact IntWalk.i64_in _ (by omega) | skip)
        case r6_1o1 =>
          intro vs w hb hV
          rw [if_pos (by kernel_rfl)]
          generalize hρ : rho _ _ _ vs = ρ
          have e5 : ρ (.tmp 5) = .int .i64 i := by rw [← hρ]; kernel_rfl
          clear hρ hV
          refine runs_val (v := .int .i64 i) (w' := w) ?_ ⟨Below.refl _ _, rfl⟩
          go_simp <;> (first | exact IntWalk.u64_in _ (by omega) | exact IntWalk.u32_in _ (by omega) | exact IntWalk.u16_in _ (by omega) | exact IntWalk.u8_in _ (by omega) | exact IntWalk.i64_in _ (by omega) | skip)
        case r6_1o2 =>
          intro vs w hb hV
          rw [if_pos (by kernel_rfl)]
          generalize hρ : rho _ _ _ vs = ρ
          have d16 : (vs 0) = .slice (some a) n c := hV 0 (by kernel_rfl)
          have e16 : ρ (.tmp 16) = vs 0 := by rw [← hρ]; kernel_rfl
          rw [d16] at e16; clear d16
          have d17 : (vs 1) = .int .i64 i := hV 1 (by kernel_rfl)
          have e17 : ρ (.tmp 17) = vs 1 := by rw [← hρ]; kernel_rfl
          rw [d17] at e17; clear d17
          clear hρ hV
          refine runs_val (v := .pointer (some (a.add (i * 2)))) (w' := w) ?_ ⟨Below.refl _ _, rfl⟩
          go_simp <;> (first | exact IntWalk.u64_in _ (by omega) | exact IntWalk.u32_in _ (by omega) | exact IntWalk.u16_in _ (by omega) | exact IntWalk.u8_in _ (by omega) | exact IntWalk.i64_in _ (by omega) | skip)
        case r6_1o3 =>
          intro vs w hb hV
          rw [if_pos (by kernel_rfl)]
          generalize hρ : rho _ _ _ vs = ρ
          have d18 : (vs 2) = .pointer (some (a.add (i * 2))) := hV 2 (by kernel_rfl)
          have e18 : ρ (.tmp 18) = vs 2 := by rw [← hρ]; kernel_rfl
          rw [d18] at e18; clear d18
          clear hρ hV
          have c0 := pw_cell_below hb PP.out.1
          have c1 := pw_cell_below hb PP.out.2.1
          refine runs_val (v := .agg #[.int .i32 x0, .int .u32 x1]) (w' := w) ?_ ⟨Below.refl _ _, rfl⟩
          go_simp
        case r6_1o4 =>
          intro vs w hb hV
          rw [if_pos (by kernel_rfl)]
          generalize hρ : rho _ _ _ vs = ρ
          have e1 : ρ (.tmp 1) = .slice (some a2) n c2 := by rw [← hρ]; kernel_rfl
          clear hρ hV
          refine runs_val (v := .slice (some a2) n c2) (w' := w) ?_ ⟨Below.refl _ _, rfl⟩
          go_simp <;> (first | exact IntWalk.u64_in _ (by omega) | exact IntWalk.u32_in _ (by omega) | exact IntWalk.u16_in _ (by omega) | exact IntWalk.u8_in _ (by omega) | exact IntWalk.i64_in _ (by omega) | skip)
        case r6_1o5 =>
          intro vs w hb hV
          rw [if_pos (by kernel_rfl)]
          generalize hρ : rho _ _ _ vs = ρ
          have e5 : ρ (.tmp 5) = .int .i64 i := by rw [← hρ]; kernel_rfl
          clear hρ hV
          refine runs_val (v := .int .i64 i) (w' := w) ?_ ⟨Below.refl _ _, rfl⟩
          go_simp <;> (first | exact IntWalk.u64_in _ (by omega) | exact IntWalk.u32_in _ (by omega) | exact IntWalk.u16_in _ (by omega) | exact IntWalk.u8_in _ (by omega) | exact IntWalk.i64_in _ (by omega) | skip)
        case r6_1o6 =>
          intro vs w hb hV
          rw [if_pos (by kernel_rfl)]
          generalize hρ : rho _ _ _ vs = ρ
          have d20 : (vs 4) = .slice (some a2) n c2 := hV 4 (by kernel_rfl)
          have e20 : ρ (.tmp 20) = vs 4 := by rw [← hρ]; kernel_rfl
          rw [d20] at e20; clear d20
          have d21 : (vs 5) = .int .i64 i := hV 5 (by kernel_rfl)
          have e21 : ρ (.tmp 21) = vs 5 := by rw [← hρ]; kernel_rfl
          rw [d21] at e21; clear d21
          clear hρ hV
          refine runs_val (v := .pointer (some (a2.add (i * 2)))) (w' := w) ?_ ⟨Below.refl _ _, rfl⟩
          go_simp <;> (first | exact IntWalk.u64_in _ (by omega) | exact IntWalk.u32_in _ (by omega) | exact IntWalk.u16_in _ (by omega) | exact IntWalk.u8_in _ (by omega) | exact IntWalk.i64_in _ (by omega) | skip)
        case r6_1o7 =>
          intro vs w hb hV
          rw [if_pos (by kernel_rfl)]
          generalize hρ : rho _ _ _ vs = ρ
          have d22 : (vs 6) = .pointer (some (a2.add (i * 2))) := hV 6 (by kernel_rfl)
          have e22 : ρ (.tmp 22) = vs 6 := by rw [← hρ]; kernel_rfl
          rw [d22] at e22; clear d22
          clear hρ hV
          have c0 := pw_cell_below hb PP.out.2.2.1
          have c1 := pw_cell_below hb PP.out.2.2.2
          refine runs_val (v := .agg #[.int .i32 y0, .int .u32 y1]) (w' := w) ?_ ⟨Below.refl _ _, rfl⟩
          go_simp
        case r6_1o8 =>
          intro vs w hb hV
          rw [if_pos (by kernel_rfl)]
          generalize hρ : rho _ _ _ vs = ρ
          have d19 : (vs 3) = .agg #[.int .i32 x0, .int .u32 x1] := hV 3 (by kernel_rfl)
          have e19 : ρ (.tmp 19) = vs 3 := by rw [← hρ]; kernel_rfl
          rw [d19] at e19; clear d19
          have d23 : (vs 7) = .agg #[.int .i32 y0, .int .u32 y1] := hV 7 (by kernel_rfl)
          have e23 : ρ (.tmp 23) = vs 7 := by rw [← hρ]; kernel_rfl
          rw [d23] at e23; clear d23
          clear hρ hV
          refine runs_val (v := .bool ν) (w' := w) ?_ ⟨Below.refl _ _, rfl⟩
          rw [HNU.out]
          go_simp
          by_cases q0 : x0 = y0 <;> by_cases q1 : x1 = y1 <;> simp [q0, q1]
        case r6_1e =>
          intro vs w2 hb2 hV
          have d16 : (vs 0) = .slice (some a) n c := hV 0 (Nat.le_of_ble_eq_true rfl)
          have d17 : (vs 1) = .int .i64 i := hV 1 (Nat.le_of_ble_eq_true rfl)
          have d18 : (vs 2) = .pointer (some (a.add (i * 2))) := hV 2 (Nat.le_of_ble_eq_true rfl)
          have d19 : (vs 3) = .agg #[.int .i32 x0, .int .u32 x1] := hV 3 (Nat.le_of_ble_eq_true rfl)
          have d20 : (vs 4) = .slice (some a2) n c2 := hV 4 (Nat.le_of_ble_eq_true rfl)
          have d21 : (vs 5) = .int .i64 i := hV 5 (Nat.le_of_ble_eq_true rfl)
          have d22 : (vs 6) = .pointer (some (a2.add (i * 2))) := hV 6 (Nat.le_of_ble_eq_true rfl)
          have d23 : (vs 7) = .agg #[.int .i32 y0, .int .u32 y1] := hV 7 (Nat.le_of_ble_eq_true rfl)
          have d24 : (vs 8) = .bool ν := hV 8 (Nat.le_of_ble_eq_true rfl)
          clear hV
          simp only [putAll]
          rw [d16, d17, d18, d19, d20, d21, d22, d23, d24]
          clear d16 d17 d18 d19 d20 d21 d22 d23 d24
          clear vs
          simp only [Act.put, List.setIfInBounds_toArray, List.set_cons_zero, List.set_cons_succ]
          have HE0 := Aside0.mk (And.intro (H.out.1.trans (hb2.mono H.out.2.1)) (Nat.le_trans H.out.2.1 hb2.size))
          clear hb2 H PP
          cases ν with
          | true =>
            have HBF : Aside0 (β = false) := ⟨by
              rw [Bool.eq_false_iff]
              intro e
              have e2 := HX.out (HBE.out.1 e)
              injection e2 with e3 e4
              have := HNU.out
              rw [e3, e4] at this
              simp at this⟩
            go_wp2_with fail
            go_ret
            rw [HBF.out]
            exact ⟨rfl, HE0.out.1⟩
          | false =>
            have HE : Aside0 (Below B w00 w2 ∧ B ≤ w2.heap.size ∧ L.take (i + 1) = M.take (i + 1)) := ⟨HE0.out.1, HE0.out.2, HY.out (by
              have := HNU.out
              simp at this
              rw [this.1, this.2])⟩
            clear HE0 HX HY HNU
            go_wp2_with fail
            go_roundw
            case rel => exact ⟨i + 1, by omega, by rw [next64 (by have := HN.out; omega)], HE⟩
            case measure => rw [next64 (by have := HN.out; omega)]; simp [intOf]; omega
      · obtain rfl : i = n := by omega
        have d1 : decide (i < i) = false := decide_eq_false (by omega)
        have HT : Aside0 (β = true) := ⟨HBE.out.2 (by have := H.out.2.2; rwa [List.take_of_length_le (by have := HL.out; omega), List.take_of_length_le (by have := HL.out; omega)] at this)⟩
        go_wp2_with fail
        go_ret
        rw [HT.out]
        exact ⟨rfl, H.out.1⟩
  · have hb : β = false := by
      rw [Bool.eq_false_iff]
      intro e
      exact hnm (by rw [← h1.1, ← h2.1, hβ.1 e])
    subst hb
    have hne : (n : Int) ≠ m := by omega
    clear h1 h2 hβ
    go_enter Try.func76, Try.ntmps76
    go_wp2_with fail
    go_ret
    exact ⟨rfl, Below.refl _ _⟩
theorem bytes_back : ∀ {a : List Int}, Bytes a → (a.map fun x => UInt8.ofNat x.toNat).map (fun b => (b.toNat : Int)) = a
  | [], _ => rfl
  | x :: l, h => by
    have hx := h x List.mem_cons_self
    rw [List.map_cons, List.map_cons, bytes_back (fun y hy => h y (List.mem_cons_of_mem _ hy))]
    congr 1
    rw [UInt8.toNat_ofNat_of_lt' (by show x.toNat < 256; omega)]
    omega
theorem strOf_inj {a b : List Int} (ha : Bytes a) (hb : Bytes b) (h : (strOfNums a).toList = (strOfNums b).toList) : a = b := by
  rw [Go.Lib.toList_data, Go.Lib.toList_data] at h
  rw [← bytes_back ha, ← bytes_back hb, Go.Lib.Lz.strOfNums_map, Go.Lib.Lz.strOfNums_map] at h
  have h2 : (a.map fun x => UInt8.ofNat x.toNat) = (b.map fun x => UInt8.ofNat x.toNat) := by simpa using h
  rw [← bytes_back ha, ← bytes_back hb, h2]
theorem bequalG_any (A B : Option Addr) (n m c d : Nat) (P Q : List Int) (w : World) (h1 : (Kd.int .u8).C w A n P) (hc : n ≤ c) (h2 : (Kd.int .u8).C w B m Q) (hd : m ≤ d) (hP : Bytes P) (hQ : Bytes Q) (β : Bool) (hβ : β = true ↔ P = Q) :
    Calls Try.prog 66 #[.slice A n c, .slice B m d] w fun e w' => e = .returned (.bool β) ∧ Below w.heap.size w w' := by
  obtain rfl := h1.1
  obtain rfl := h2.1
  refine (bytes_Equal.calls A c P B d Q β w h1 hc h2 hd (by
    unfold bytes_Equal.f
    congr 1
    rw [Bool.eq_iff_iff, hβ, beq_iff_eq]
    exact ⟨fun h => strOf_inj hP hQ h, fun h => by rw [h]⟩)).mono ?_
  rintro e w5 ⟨rfl, hb⟩
  exact ⟨rfl, by first | exact hb.below | exact hb⟩
set_option maxRecDepth 100000 in
set_option maxHeartbeats 8000000 in
theorem dsameG_any (tk hs tk' hs' : Int) (P P' : List Int) (R R' : List S59) (v u : Value) (w00 : World) (hv : DvC w00 tk hs P R v) (hu : DvC w00 tk' hs' P' R' u) (hP : Bytes P) (hP' : Bytes P') (hn : R.length ≤ 1000000) (hn' : R'.length ≤ 1000000) (β : Bool) (hβ : β = true ↔ tk = tk' ∧ hs = hs' ∧ P = P' ∧ R = R') :
    Calls Try.prog 50 #[v, u] w00 fun e w' => e = .returned (.bool β) ∧ Below w00.heap.size w00 w' := by
  obtain ⟨A, c, A2, c2, rfl, h2, h3, h4, h5⟩ := hv
  obtain ⟨B, d, B2, d2, rfl, k2, k3, k4, k5⟩ := hu
  have HC := Aside0.mk (And.intro h2 (And.intro h3 (And.intro k2 k3)))
  have HN := Aside0.mk (And.intro hn hn')
  have HPB := Aside0.mk (And.intro hP hP')
  have HBE := Aside0.mk hβ
  have HF : Aside0 (∀ z, Below w00.heap.size w00 z → (Kd.int .u8).C z A P.length P ∧ k59.C z A2 R.length R ∧ (Kd.int .u8).C z B P'.length P' ∧ k59.C z B2 R'.length R') := ⟨fun z hb => ⟨Kd.C_below h4 hb, Kd.C_below h5 hb, Kd.C_below k4 hb, Kd.C_below k5 hb⟩⟩
  have H0 := Aside0.mk (((Hp.start w00).alloc (.cells #[.int .u32 tk, .int .u32 hs, .slice A P.length c, .slice A2 R.length c2] 26)).allocAt (.cells #[.int .u32 tk', .int .u32 hs', .slice B P'.length d, .slice B2 R'.length d2] 26) (w00.heap.size + 1) (by simp))
  clear h2 h3 h4 h5 k2 k3 k4 k5 hn hn' hP hP' hβ
  generalize P.length = n at *
  generalize R.length = m at *
  generalize P'.length = n' at *
  generalize R'.length = m' at *
  go_enter Try.func50, Try.ntmps50
  go_upto_region 1 with fail
  generalize (w00.alloc (.cells #[.int .u32 tk, .int .u32 hs, .slice A n c, .slice A2 m c2] 26)).alloc (.cells #[.int .u32 tk', .int .u32 hs', .slice B n' d, .slice B2 m' d2] 26) = W at *
  obtain ⟨gd, hgd⟩ : ∃ gd, w00.heap.size = gd := ⟨_, rfl⟩
  rw [hgd] at H0 HF
  rw [hgd]
  have HGD := Aside0.mk hgd
  clear hgd
  have a0 := blk_cell (H0.out.get (i := 1) rfl) 0
  have a1 := blk_cell (H0.out.get (i := 1) rfl) 1
  have a2 := blk_cell (H0.out.get (i := 1) rfl) 2
  have b0 := blk_cell (H0.out.get (i := 0) rfl) 0
  have b1 := blk_cell (H0.out.get (i := 0) rfl) 1
  have b2 := blk_cell (H0.out.get (i := 0) rfl) 2
  by_cases e1 : tk = tk'
  · by_cases e2 : hs = hs'
    · subst e1 e2
      go_wp2_with fail
      obtain ⟨f1, f2, f3, f4⟩ := HF.out W H0.out.bel
      obtain ⟨γ, hγ⟩ : ∃ γ : Bool, γ = true ↔ P = P' := ⟨decide (P = P'), decide_eq_true_iff⟩
      have KS := Aside0.mk (bequalG_any A B n n' c d P P' W f1 HC.out.1 f3 HC.out.2.2.1 HPB.out.1 HPB.out.2 γ hγ)
      refine KS.out.mono ?_
      rintro e w1 ⟨rfl, hb1⟩
      have H1 := Aside0.mk (H0.out.call hb1)
      clear a0 a1 a2 b0 b1 b2 f1 f2 f3 f4 KS hb1 H0
      have a3 := blk_cell (H1.out.get (i := 1) rfl) 3
      have b3 := blk_cell (H1.out.get (i := 0) rfl) 3
      have HG := Aside0.mk hγ
      clear hγ
      cases γ with
      | false =>
        have HT : Aside0 (β = false) := ⟨by
          rw [Bool.eq_false_iff]
          intro e
          exact absurd (HG.out.2 (HBE.out.1 e).2.2.1) (by simp)⟩
        go_wp2_with fail
        go_ret
        rw [HGD.out, HT.out]
        exact ⟨rfl, H1.out.bel⟩
      | true =>
        have HPP := Aside0.mk (HG.out.1 rfl)
        go_wp2_with fail
        obtain ⟨f1, f2, f3, f4⟩ := HF.out w1 H1.out.bel
        have hβ2 : β = true ↔ R = R' := ⟨fun h => (HBE.out.1 h).2.2.2, fun h => HBE.out.2 (by refine ⟨?_, ?_, HPP.out, h⟩ <;> first | rfl | trivial)⟩
        have KC := Aside0.mk (cequalG_any A2 B2 m m' c2 d2 R R' w1 f2 f4 HN.out.1 HN.out.2 β hβ2)
        refine KC.out.mono ?_
        rintro e w2 ⟨rfl, hd⟩
        have H2 := Aside0.mk (H1.out.call hd)
        clear f1 f2 f3 f4 KC hd a3 b3 H1
        go_wp2_with fail
        go_ret
        rw [HGD.out]
        exact ⟨rfl, H2.out.bel⟩
    · have HT : Aside0 (β = false) := ⟨by
        rw [Bool.eq_false_iff]
        intro e
        exact e2 (HBE.out.1 e).2.1⟩
      subst e1
      go_wp2_with fail
      go_ret
      rw [HGD.out, HT.out]
      exact ⟨rfl, H0.out.bel⟩
  · have HT : Aside0 (β = false) := ⟨by
      rw [Bool.eq_false_iff]
      intro e
      exact e1 (HBE.out.1 e).1⟩
    go_wp2_with fail
    go_ret
    rw [HGD.out, HT.out]
    exact ⟨rfl, H0.out.bel⟩
set_option maxRecDepth 100000 in
set_option maxHeartbeats 8000000 in
theorem rsame7G_any (tk hs tk' hs' : Int) (P P' : List Int) (R R' : List S97) (v u : Value) (w00 : World) (hv : DrC w00 tk hs P R v) (hu : DrC w00 tk' hs' P' R' u) (hP : Bytes P) (hP' : Bytes P') (hn : R.length ≤ 1000000) (hn' : R'.length ≤ 1000000) (β : Bool) (hβ : β = true ↔ tk = tk' ∧ hs = hs' ∧ P = P' ∧ R = R') :
    Calls Try.prog 23 #[v, u] w00 fun e w' => e = .returned (.bool β) ∧ Below w00.heap.size w00 w' := by
  obtain ⟨A, c, A2, c2, rfl, h2, h3, h4, h5⟩ := hv
  obtain ⟨B, d, B2, d2, rfl, k2, k3, k4, k5⟩ := hu
  have HC := Aside0.mk (And.intro h2 (And.intro h3 (And.intro k2 k3)))
  have HN := Aside0.mk (And.intro hn hn')
  have HPB := Aside0.mk (And.intro hP hP')
  have HBE := Aside0.mk hβ
  have HF : Aside0 (∀ z, Below w00.heap.size w00 z → (Kd.int .u8).C z A P.length P ∧ k97.C z A2 R.length R ∧ (Kd.int .u8).C z B P'.length P' ∧ k97.C z B2 R'.length R') := ⟨fun z hb => ⟨Kd.C_below h4 hb, Kd.C_below h5 hb, Kd.C_below k4 hb, Kd.C_below k5 hb⟩⟩
  have H0 := Aside0.mk (((Hp.start w00).alloc (.cells #[.int .u32 tk, .int .u32 hs, .slice A P.length c, .slice A2 R.length c2] 37)).allocAt (.cells #[.int .u32 tk', .int .u32 hs', .slice B P'.length d, .slice B2 R'.length d2] 37) (w00.heap.size + 1) (by simp))
  clear h2 h3 h4 h5 k2 k3 k4 k5 hn hn' hP hP' hβ
  generalize P.length = n at *
  generalize R.length = m at *
  generalize P'.length = n' at *
  generalize R'.length = m' at *
  go_enter Try.func23, Try.ntmps23
  go_upto_region 1 with fail
  generalize (w00.alloc (.cells #[.int .u32 tk, .int .u32 hs, .slice A n c, .slice A2 m c2] 37)).alloc (.cells #[.int .u32 tk', .int .u32 hs', .slice B n' d, .slice B2 m' d2] 37) = W at *
  obtain ⟨gd, hgd⟩ : ∃ gd, w00.heap.size = gd := ⟨_, rfl⟩
  rw [hgd] at H0 HF
  rw [hgd]
  have HGD := Aside0.mk hgd
  clear hgd
  have a0 := blk_cell (H0.out.get (i := 1) rfl) 0
  have a1 := blk_cell (H0.out.get (i := 1) rfl) 1
  have a2 := blk_cell (H0.out.get (i := 1) rfl) 2
  have b0 := blk_cell (H0.out.get (i := 0) rfl) 0
  have b1 := blk_cell (H0.out.get (i := 0) rfl) 1
  have b2 := blk_cell (H0.out.get (i := 0) rfl) 2
  by_cases e1 : tk = tk'
  · by_cases e2 : hs = hs'
    · subst e1 e2
      go_wp2_with fail
      obtain ⟨f1, f2, f3, f4⟩ := HF.out W H0.out.bel
      obtain ⟨γ, hγ⟩ : ∃ γ : Bool, γ = true ↔ P = P' := ⟨decide (P = P'), decide_eq_true_iff⟩
      have KS := Aside0.mk (same_any A B n n' c d P P' W f1 HC.out.1 f3 HC.out.2.2.1)
      have hdd : decide (P = P') = γ := by rw [Bool.eq_iff_iff, decide_eq_true_iff, hγ]
      rw [hdd] at KS
      clear hdd
      refine KS.out.mono ?_
      rintro e w1 ⟨rfl, hb1⟩
      have H1 := Aside0.mk (H0.out.call hb1)
      clear a0 a1 a2 b0 b1 b2 f1 f2 f3 f4 KS hb1 H0
      have a3 := blk_cell (H1.out.get (i := 1) rfl) 3
      have b3 := blk_cell (H1.out.get (i := 0) rfl) 3
      have HG := Aside0.mk hγ
      clear hγ
      cases γ with
      | false =>
        have HT : Aside0 (β = false) := ⟨by
          rw [Bool.eq_false_iff]
          intro e
          exact absurd (HG.out.2 (HBE.out.1 e).2.2.1) (by simp)⟩
        go_wp2_with fail
        go_ret
        rw [HGD.out, HT.out]
        exact ⟨rfl, H1.out.bel⟩
      | true =>
        have HPP := Aside0.mk (HG.out.1 rfl)
        go_wp2_with fail
        obtain ⟨f1, f2, f3, f4⟩ := HF.out w1 H1.out.bel
        have hβ2 : β = true ↔ R = R' := ⟨fun h => (HBE.out.1 h).2.2.2, fun h => HBE.out.2 (by refine ⟨?_, ?_, HPP.out, h⟩ <;> first | rfl | trivial)⟩
        have hm := f2.1
        have KC := Aside0.mk (csame_any A2 B2 m m' c2 d2 R R' w1 f2 f4 HN.out.1 HN.out.2)
        have hdd : sameL R R' = β := by rw [Bool.eq_iff_iff, sameL_iff, hβ2]
        rw [hdd] at KC
        clear hdd hm
        refine KC.out.mono ?_
        rintro e w2 ⟨rfl, hd⟩
        have H2 := Aside0.mk (H1.out.call hd.below)
        clear f1 f2 f3 f4 KC hd a3 b3 H1
        go_wp2_with fail
        go_ret
        rw [HGD.out]
        exact ⟨rfl, H2.out.bel⟩
    · have HT : Aside0 (β = false) := ⟨by
        rw [Bool.eq_false_iff]
        intro e
        exact e2 (HBE.out.1 e).2.1⟩
      subst e1
      go_wp2_with fail
      go_ret
      rw [HGD.out, HT.out]
      exact ⟨rfl, H0.out.bel⟩
  · have HT : Aside0 (β = false) := ⟨by
      rw [Bool.eq_false_iff]
      intro e
      exact e1 (HBE.out.1 e).1⟩
    go_wp2_with fail
    go_ret
    rw [HGD.out, HT.out]
    exact ⟨rfl, H0.out.bel⟩
end Go.Proofs.Yticpjidcgaaldaa

namespace Go.Proofs.Yticpjidcgaaldaa
open Go.RowKit Go.Proofs.YticpjidcgaaldaaW.PrintWords Go.Proofs.YticpjidcgaaldaaW.PrintLast Go.Proofs.YticpjidcgaaldaaW.PrintMore
set_option linter.unusedVariables false
set_option linter.unusedSimpArgs false

def MsC (w : World) (k t m tk hs : Int) (P : List Int) (C : List S59) (v : Value) : Prop :=
  ∃ A c A2 c2, v = .agg #[.int .u8 k, .int .u32 t, .int .u32 m, .int .u32 tk, .int .u32 hs, .slice A P.length c, .slice A2 C.length c2] ∧ P.length ≤ c ∧ C.length ≤ c2 ∧ (Kd.int .u8).C w A P.length P ∧ k59.C w A2 C.length C
theorem MsC.below {w w' : World} {k t m tk hs : Int} {P : List Int} {C : List S59} {v : Value} (h : MsC w k t m tk hs P C v) (hb : Below w.heap.size w w') : MsC w' k t m tk hs P C v := by
  obtain ⟨A, c, A2, c2, h1, h2, h3, h4, h5⟩ := h
  exact ⟨A, c, A2, c2, h1, h2, h3, Kd.C_below h4 hb, Kd.C_below h5 hb⟩
def isZ (tk hs : Int) (P : List Int) (C : List S59) : Bool := decide (tk = 0 ∧ hs = 0 ∧ P.length = 0 ∧ C.length = 0)
theorem isZ_iff (tk hs : Int) (P : List Int) (C : List S59) : isZ tk hs P C = true ↔ tk = 0 ∧ hs = 0 ∧ P = [] ∧ C = [] := by
  unfold isZ
  rw [decide_eq_true_iff, List.length_eq_zero_iff, List.length_eq_zero_iff]
def rightM (k t m tk hs : Int) (P : List Int) (C : List S59) : Bool :=
  if k = 1 ∨ k = 3 ∨ k = 4 then isZ tk hs P C && (decide (t = 0) && decide (m = 0)) else if k = 2 then isZ tk hs P C else if k = 5 ∨ k = 6 then decide (m = 0) && (decide (tk = t) && rightB P C.length) else false
theorem msg_info (a b c d e f g : Value) : (Try.prog.info? 28).map (·.size) = some (#[a, b, c, d, e, f, g] : Array Value).size := by kernel_rfl
def OkM (k t m tk hs : Int) (P : List Int) (C : List S59) : Prop := (0 ≤ k ∧ k < 256) ∧ (0 ≤ t ∧ t < 4294967296) ∧ (0 ≤ m ∧ m < 4294967296) ∧ (0 ≤ tk ∧ tk < 4294967296) ∧ (0 ≤ hs ∧ hs < 4294967296) ∧ Bytes P ∧ (∀ y ∈ C, I32p y.f0 ∧ U32 y.f1) ∧ P.length ≤ 1000 ∧ C.length ≤ 1000

set_option maxRecDepth 100000 in
set_option maxHeartbeats 16000000 in
theorem mright_any (k t m tk hs : Int) (P : List Int) (C : List S59) (v : Value) (w00 : World) (hv : MsC w00 k t m tk hs P C v) (hk : OkM k t m tk hs P C) :
    Calls Try.prog 37 #[v] w00 fun e w' => e = .returned (.bool (rightM k t m tk hs P C)) ∧ Below w00.heap.size w00 w' := by
  obtain ⟨A, c, A2, c2, rfl, h2, h3, h4, h5⟩ := hv
  have HOK := Aside0.mk hk
  have HD : Aside0 (∀ z, Below w00.heap.size w00 z → DvC z tk hs P C (.agg #[.int .u32 tk, .int .u32 hs, .slice A P.length c, .slice A2 C.length c2])) := ⟨fun z hz => ⟨A, c, A2, c2, rfl, h2, h3, Kd.C_below h4 hz, Kd.C_below h5 hz⟩⟩
  have HZ : Aside0 (∀ z : World, DvC z 0 0 [] [] (.agg #[.int .u32 0, .int .u32 0, .slice none 0 0, .slice none 0 0])) := ⟨fun z => ⟨none, 0, none, 0, rfl, Nat.le_refl _, Nat.le_refl _, Kd.C_nil _ _, Kd.C_nil _ _⟩⟩
  obtain ⟨n, hn⟩ : ∃ n, P.length = n := ⟨_, rfl⟩
  obtain ⟨nc, hnc⟩ : ∃ nc, C.length = nc := ⟨_, rfl⟩
  rw [hn, hnc] at HD
  rw [hn, hnc]
  obtain ⟨B, hB⟩ : ∃ B, w00.heap.size = B := ⟨_, rfl⟩
  rw [hB] at HD
  have HB := Aside0.mk hB
  have H0 := Aside0.mk ((Hp.start w00).allocAt (.cells #[.int .u8 k, .int .u32 t, .int .u32 m, .int .u32 tk, .int .u32 hs, .slice A n c, .slice A2 nc c2] 28) B hB)
  rw [hB] at H0
  obtain ⟨ζ, hζ⟩ : ∃ ζ, isZ tk hs P C = ζ := ⟨_, rfl⟩
  obtain ⟨ρ, hρ⟩ : ∃ ρ, rightM k t m tk hs P C = ρ := ⟨_, rfl⟩
  have HR := Aside0.mk hρ
  rw [hρ]
  have KD := Aside0.mk (fun (z : World) (h : Below B w00 z) => dsameG_any tk hs 0 0 P [] C [] _ _ z (HD.out z h) (HZ.out z) HOK.out.2.2.2.2.2.1 Bytes.nil (by have := HOK.out.2.2.2.2.2.2.2.2; omega) (by simp) ζ (by rw [← hζ]; exact isZ_iff tk hs P C))
  have HZE := Aside0.mk hζ
  obtain ⟨tkn, htk⟩ : ∃ x : Nat, tk = (x : Int) := ⟨tk.toNat, by have := HOK.out.2.2.2.1; omega⟩
  obtain ⟨hsn, hhs⟩ : ∃ x : Nat, hs = (x : Int) := ⟨hs.toNat, by have := HOK.out.2.2.2.2.1; omega⟩
  have HTN := Aside0.mk (And.intro htk hhs)
  have KB := Aside0.mk (fun (z : World) (h : Below B w00 z) => pbytes7_any tkn hsn P C _ z (by rw [← htk, ← hhs]; exact HD.out z h) HOK.out.2.2.2.2.2.1 (by have := HOK.out.2.2.2.2.2.2.2.1; omega) (by have := HOK.out.2.2.2.1; omega) (by have := HOK.out.2.2.2.2.1; omega) (fun y hy => (HOK.out.2.2.2.2.2.2.1 y hy).2))
  have HPOS := Aside0.mk (pbD_pos tkn hsn P C)
  obtain ⟨pb, hpb⟩ : ∃ pb, pbD tkn hsn P C = pb := ⟨_, rfl⟩
  rw [hpb] at KB HPOS
  clear hk h2 h3 h4 h5 hn hnc hζ hρ htk hhs hpb
  have c0 := blk_cell (H0.out.get (i := 0) rfl) 0
  have c1 := blk_cell (H0.out.get (i := 0) rfl) 1
  have c2' := blk_cell (H0.out.get (i := 0) rfl) 2
  have c3 := blk_cell (H0.out.get (i := 0) rfl) 3
  have c4 := blk_cell (H0.out.get (i := 0) rfl) 4
  have c5 := blk_cell (H0.out.get (i := 0) rfl) 5
  have c6 := blk_cell (H0.out.get (i := 0) rfl) 6
  go_enter Try.func37, Try.ntmps37
  go_wp2_with fail
  clear c0 c1 c2' c3 c4 c5 c6
  refine (KD.out _ H0.out.bel).mono ?_
  rintro e w1 ⟨rfl, hb1⟩
  have H1 := Aside0.mk (H0.out.call hb1)
  clear hb1 H0 KD
  have c0 := blk_cell (H1.out.get (i := 0) rfl) 0
  have c1 := blk_cell (H1.out.get (i := 0) rfl) 1
  have c2' := blk_cell (H1.out.get (i := 0) rfl) 2
  have c3 := blk_cell (H1.out.get (i := 0) rfl) 3
  have c4 := blk_cell (H1.out.get (i := 0) rfl) 4
  have c5 := blk_cell (H1.out.get (i := 0) rfl) 5
  have c6 := blk_cell (H1.out.get (i := 0) rfl) 6
  by_cases h1 : k = 1
  · subst h1
    cases ζ with
    | false =>
      have HRV : Aside0 (ρ = false) := ⟨by rw [← HR.out]; unfold rightM; rw [if_pos (by omega), HZE.out]; rfl⟩
      go_wp2_with fail
      go_ret
      rw [HB.out, HRV.out]
      exact ⟨rfl, H1.out.bel⟩
    | true =>
      by_cases ht : t = 0
      · subst ht
        by_cases hm : m = 0
        · subst hm
          have HRV : Aside0 (ρ = true) := ⟨by rw [← HR.out]; unfold rightM; rw [if_pos (by omega), HZE.out]; simp⟩
          go_wp2_with fail
          go_ret
          rw [HB.out, HRV.out]
          exact ⟨rfl, H1.out.bel⟩
        · have hm2 : (m == 0) = false := by simpa using hm
          have HRV : Aside0 (ρ = false) := ⟨by rw [← HR.out]; unfold rightM; rw [if_pos (by omega), HZE.out, decide_eq_false hm]; simp⟩
          go_wp2_with fail
          go_ret
          rw [HB.out, HRV.out]
          exact ⟨rfl, H1.out.bel⟩
      · have HRV : Aside0 (ρ = false) := ⟨by rw [← HR.out]; unfold rightM; rw [if_pos (by omega), HZE.out, decide_eq_false ht]; simp⟩
        go_wp2_with fail
        go_ret
        rw [HB.out, HRV.out]
        exact ⟨rfl, H1.out.bel⟩
  · skip
    by_cases h3 : k = 3
    · subst h3
      cases ζ with
      | false =>
        have HRV : Aside0 (ρ = false) := ⟨by rw [← HR.out]; unfold rightM; rw [if_pos (by omega), HZE.out]; rfl⟩
        go_wp2_with fail
        go_ret
        rw [HB.out, HRV.out]
        exact ⟨rfl, H1.out.bel⟩
      | true =>
        by_cases ht : t = 0
        · subst ht
          by_cases hm : m = 0
          · subst hm
            have HRV : Aside0 (ρ = true) := ⟨by rw [← HR.out]; unfold rightM; rw [if_pos (by omega), HZE.out]; simp⟩
            go_wp2_with fail
            go_ret
            rw [HB.out, HRV.out]
            exact ⟨rfl, H1.out.bel⟩
          · have hm2 : (m == 0) = false := by simpa using hm
            have HRV : Aside0 (ρ = false) := ⟨by rw [← HR.out]; unfold rightM; rw [if_pos (by omega), HZE.out, decide_eq_false hm]; simp⟩
            go_wp2_with fail
            go_ret
            rw [HB.out, HRV.out]
            exact ⟨rfl, H1.out.bel⟩
        · have HRV : Aside0 (ρ = false) := ⟨by rw [← HR.out]; unfold rightM; rw [if_pos (by omega), HZE.out, decide_eq_false ht]; simp⟩
          go_wp2_with fail
          go_ret
          rw [HB.out, HRV.out]
          exact ⟨rfl, H1.out.bel⟩
    · skip
      by_cases h4 : k = 4
      · subst h4
        cases ζ with
        | false =>
          have HRV : Aside0 (ρ = false) := ⟨by rw [← HR.out]; unfold rightM; rw [if_pos (by omega), HZE.out]; rfl⟩
          go_wp2_with fail
          go_ret
          rw [HB.out, HRV.out]
          exact ⟨rfl, H1.out.bel⟩
        | true =>
          by_cases ht : t = 0
          · subst ht
            by_cases hm : m = 0
            · subst hm
              have HRV : Aside0 (ρ = true) := ⟨by rw [← HR.out]; unfold rightM; rw [if_pos (by omega), HZE.out]; simp⟩
              go_wp2_with fail
              go_ret
              rw [HB.out, HRV.out]
              exact ⟨rfl, H1.out.bel⟩
            · have hm2 : (m == 0) = false := by simpa using hm
              have HRV : Aside0 (ρ = false) := ⟨by rw [← HR.out]; unfold rightM; rw [if_pos (by omega), HZE.out, decide_eq_false hm]; simp⟩
              go_wp2_with fail
              go_ret
              rw [HB.out, HRV.out]
              exact ⟨rfl, H1.out.bel⟩
          · have HRV : Aside0 (ρ = false) := ⟨by rw [← HR.out]; unfold rightM; rw [if_pos (by omega), HZE.out, decide_eq_false ht]; simp⟩
            go_wp2_with fail
            go_ret
            rw [HB.out, HRV.out]
            exact ⟨rfl, H1.out.bel⟩
      · skip
        by_cases h2 : k = 2
        · subst h2
          have HRV : Aside0 (ρ = ζ) := ⟨by rw [← HR.out]; unfold rightM; rw [if_neg (by omega), if_pos rfl]; exact HZE.out⟩
          go_wp2_with fail
          go_ret
          rw [HB.out, HRV.out]
          exact ⟨rfl, H1.out.bel⟩
        · skip
          by_cases h5 : k = 5
          · subst h5
            by_cases hm : m = 0
            · subst hm
              by_cases ht : tk = t
              · subst ht
                clear HZE
                go_wp2_with fail
                refine (KB.out _ H1.out.bel).mono ?_
                rintro e w2 ⟨v2, rfl, hv2, hb2⟩
                obtain ⟨Ab, cb, rfl, hcb, _⟩ := Kd.R_reads hv2
                have H2 := Aside0.mk (H1.out.call hb2)
                clear hv2 hb2 H1 c0 c1 c2' c3 c4 c5 c6
                obtain ⟨pl, hpl⟩ : ∃ pl, pb.length = pl := ⟨_, rfl⟩
                rw [hpl] at HPOS
                rw [hpl]
                clear hpl
                have HRV : Aside0 (ρ = rightB P C.length) := ⟨by rw [← HR.out]; unfold rightM; rw [if_neg (by omega), if_neg (by omega), if_pos (by omega)]; simp⟩
                cases hr : rightB P C.length with
                | true =>
                  rw [hr] at HPOS HRV
                  have hp0 : (0 : Int) < pl := by have := of_decide_eq_true HPOS.out; omega
                  have hp1 : decide (0 < pl) = true := HPOS.out
                  clear hr
                  go_wp2_with fail
                  go_ret
                  rw [HB.out, HRV.out]
                  exact ⟨rfl, H2.out.bel⟩
                | false =>
                  rw [hr] at HPOS HRV
                  have hp0 : ¬ (0 : Int) < pl := by have := of_decide_eq_false HPOS.out; omega
                  have hp1 : decide (0 < pl) = false := HPOS.out
                  clear hr
                  go_wp2_with fail
                  go_ret
                  rw [HB.out, HRV.out]
                  exact ⟨rfl, H2.out.bel⟩
              · have HRV : Aside0 (ρ = false) := ⟨by rw [← HR.out]; unfold rightM; rw [if_neg (by omega), if_neg (by omega), if_pos (by omega), decide_eq_false ht]; simp⟩
                go_wp2_with fail
                go_ret
                rw [HB.out, HRV.out]
                exact ⟨rfl, H1.out.bel⟩
            · have HRV : Aside0 (ρ = false) := ⟨by rw [← HR.out]; unfold rightM; rw [if_neg (by omega), if_neg (by omega), if_pos (by omega), decide_eq_false hm]; simp⟩
              go_wp2_with fail
              go_ret
              rw [HB.out, HRV.out]
              exact ⟨rfl, H1.out.bel⟩
          · skip
            by_cases h6 : k = 6
            · subst h6
              by_cases hm : m = 0
              · subst hm
                by_cases ht : tk = t
                · subst ht
                  clear HZE
                  go_wp2_with fail
                  refine (KB.out _ H1.out.bel).mono ?_
                  rintro e w2 ⟨v2, rfl, hv2, hb2⟩
                  obtain ⟨Ab, cb, rfl, hcb, _⟩ := Kd.R_reads hv2
                  have H2 := Aside0.mk (H1.out.call hb2)
                  clear hv2 hb2 H1 c0 c1 c2' c3 c4 c5 c6
                  obtain ⟨pl, hpl⟩ : ∃ pl, pb.length = pl := ⟨_, rfl⟩
                  rw [hpl] at HPOS
                  rw [hpl]
                  clear hpl
                  have HRV : Aside0 (ρ = rightB P C.length) := ⟨by rw [← HR.out]; unfold rightM; rw [if_neg (by omega), if_neg (by omega), if_pos (by omega)]; simp⟩
                  cases hr : rightB P C.length with
                  | true =>
                    rw [hr] at HPOS HRV
                    have hp0 : (0 : Int) < pl := by have := of_decide_eq_true HPOS.out; omega
                    have hp1 : decide (0 < pl) = true := HPOS.out
                    clear hr
                    go_wp2_with fail
                    go_ret
                    rw [HB.out, HRV.out]
                    exact ⟨rfl, H2.out.bel⟩
                  | false =>
                    rw [hr] at HPOS HRV
                    have hp0 : ¬ (0 : Int) < pl := by have := of_decide_eq_false HPOS.out; omega
                    have hp1 : decide (0 < pl) = false := HPOS.out
                    clear hr
                    go_wp2_with fail
                    go_ret
                    rw [HB.out, HRV.out]
                    exact ⟨rfl, H2.out.bel⟩
                · have HRV : Aside0 (ρ = false) := ⟨by rw [← HR.out]; unfold rightM; rw [if_neg (by omega), if_neg (by omega), if_pos (by omega), decide_eq_false ht]; simp⟩
                  go_wp2_with fail
                  go_ret
                  rw [HB.out, HRV.out]
                  exact ⟨rfl, H1.out.bel⟩
              · have HRV : Aside0 (ρ = false) := ⟨by rw [← HR.out]; unfold rightM; rw [if_neg (by omega), if_neg (by omega), if_pos (by omega), decide_eq_false hm]; simp⟩
                go_wp2_with fail
                go_ret
                rw [HB.out, HRV.out]
                exact ⟨rfl, H1.out.bel⟩
            · skip
              have HRV : Aside0 (ρ = false) := ⟨by rw [← HR.out]; unfold rightM; rw [if_neg (by omega), if_neg (by omega), if_neg (by omega)]⟩
              go_wp2_with fail
              go_ret
              rw [HB.out, HRV.out]
              exact ⟨rfl, H1.out.bel⟩
end Go.Proofs.Yticpjidcgaaldaa

namespace Go.Proofs.Yticpjidcgaaldaa
open Go.RowKit Go.Proofs.YticpjidcgaaldaaW.PrintWords Go.Proofs.YticpjidcgaaldaaW.PrintLast Go.Proofs.YticpjidcgaaldaaW.PrintMore
set_option linter.unusedVariables false
set_option linter.unusedSimpArgs false

def mSay (k t m tk hs : Int) (P : List Int) (C : List S59) : List Int :=
  if k = 2 then [k] ++ lowN t.toNat 4 ++ lowN m.toNat 4 else if k = 5 ∨ k = 6 then [k] ++ pbD tk.toNat hs.toNat P C else [k]
def mBytes (k t m tk hs : Int) (P : List Int) (C : List S59) : List Int := if rightM k t m tk hs P C = true then mSay k t m tk hs P C else []

set_option maxRecDepth 100000 in
set_option maxHeartbeats 16000000 in
theorem mbytes_any (k t m tk hs : Int) (P : List Int) (C : List S59) (v : Value) (w00 : World) (hv : MsC w00 k t m tk hs P C v) (hk : OkM k t m tk hs P C) :
    Calls Try.prog 13 #[v] w00 fun e w' => ∃ v', e = .returned v' ∧ (Kd.int .u8).R 5 w' w00.heap.size (fun _ => True) v' (mBytes k t m tk hs P C) ∧ Below w00.heap.size w00 w' := by
  have KR := Aside0.mk (fun (z : World) (h : Below w00.heap.size w00 z) => mright_any k t m tk hs P C v z (hv.below h) hk)
  obtain ⟨A, c, A2, c2, rfl, h2, h3, h4, h5⟩ := hv
  have HOK := Aside0.mk hk
  have HD : Aside0 (∀ z, Below w00.heap.size w00 z → DvC z tk hs P C (.agg #[.int .u32 tk, .int .u32 hs, .slice A P.length c, .slice A2 C.length c2])) := ⟨fun z hz => ⟨A, c, A2, c2, rfl, h2, h3, Kd.C_below h4 hz, Kd.C_below h5 hz⟩⟩
  obtain ⟨n, hn⟩ : ∃ n, P.length = n := ⟨_, rfl⟩
  obtain ⟨nc, hnc⟩ : ∃ nc, C.length = nc := ⟨_, rfl⟩
  rw [hn, hnc] at HD KR
  rw [hn, hnc]
  obtain ⟨B, hB⟩ : ∃ B, w00.heap.size = B := ⟨_, rfl⟩
  rw [hB] at HD KR
  have HB := Aside0.mk hB
  have H0 := Aside0.mk ((Hp.start w00).allocAt (.cells #[.int .u8 k, .int .u32 t, .int .u32 m, .int .u32 tk, .int .u32 hs, .slice A n c, .slice A2 nc c2] 28) B hB)
  rw [hB] at H0
  obtain ⟨tn, htn⟩ : ∃ x : Nat, t = (x : Int) := ⟨t.toNat, by have := HOK.out.2.1; omega⟩
  obtain ⟨mn, hmn⟩ : ∃ x : Nat, m = (x : Int) := ⟨m.toNat, by have := HOK.out.2.2.1; omega⟩
  obtain ⟨tkn, htk⟩ : ∃ x : Nat, tk = (x : Int) := ⟨tk.toNat, by have := HOK.out.2.2.2.1; omega⟩
  obtain ⟨hsn, hhs⟩ : ∃ x : Nat, hs = (x : Int) := ⟨hs.toNat, by have := HOK.out.2.2.2.2.1; omega⟩
  have HTN : Aside0 (t = tn ∧ m = mn ∧ tn < 4294967296 ∧ mn < 4294967296) := ⟨htn, hmn, by have := HOK.out.2.1; omega, by have := HOK.out.2.2.1; omega⟩
  have KB := Aside0.mk (fun (z : World) (h : Below B w00 z) => pbytes7_any tkn hsn P C _ z (by rw [← htk, ← hhs]; exact HD.out z h) HOK.out.2.2.2.2.2.1 (by have := HOK.out.2.2.2.2.2.2.2.1; omega) (by have := HOK.out.2.2.2.1; omega) (by have := HOK.out.2.2.2.2.1; omega) (fun y hy => (HOK.out.2.2.2.2.2.2.1 y hy).2))
  have HPN := Aside0.mk hn
  obtain ⟨pb, hpb⟩ : ∃ pb, pbD tkn hsn P C = pb := ⟨_, rfl⟩
  rw [hpb] at KB
  have HPL : Aside0 (pb.length ≤ 9009) := ⟨by rw [← hpb]; have := pbD_le tkn hsn P C; have := HOK.out.2.2.2.2.2.2.2.1; omega⟩
  obtain ⟨mb, hmb⟩ : ∃ mb, mBytes k t m tk hs P C = mb := ⟨_, rfl⟩
  rw [hmb]
  obtain ⟨ρ, hρ⟩ : ∃ ρ, rightM k t m tk hs P C = ρ := ⟨_, rfl⟩
  have HMB : Aside0 (mb = if ρ = true then (if k = 2 then [k] ++ lowN tn 4 ++ lowN mn 4 else if k = 5 ∨ k = 6 then [k] ++ pb else [k]) else []) := ⟨by
    rw [← hmb, ← hρ, ← hpb]
    unfold mBytes mSay
    rw [show t.toNat = tn by omega, show m.toNat = mn by omega, show tk.toNat = tkn by omega, show hs.toNat = hsn by omega]⟩
  rw [hρ] at KR
  clear hk h2 h3 h4 h5 hn hnc htk hhs hpb hmb hρ htn hmn
  go_enter Try.func13, Try.ntmps13
  go_wp2_with (first | (refine wpList_load_row_g 28 (.tmp 1) rfl B rfl rfl 28 _ (0, 0) _ (H0.out.get (i := 0) rfl) Try.underlying28 rfl (msg_info _ _ _ _ _ _ _) ?_))
  refine (KR.out _ H0.out.bel).mono ?_
  rintro e V0 ⟨rfl, hb1⟩
  have H1 := Aside0.mk (H0.out.call hb1)
  clear hb1 H0 KR
  cases ρ with
  | false =>
    have HE : Aside0 (mb = []) := ⟨by rw [HMB.out]; rfl⟩
    clear HMB
    go_wp2_with fail
    go_ret
    rw [HE.out, HB.out]
    exact ⟨_, rfl, Kd.R_nil _ _ _ _ _, H1.out.bel⟩
  | true =>
    rw [if_pos rfl] at HMB
    obtain ⟨gp, hgp⟩ : ∃ gp, V0.heap.size = gp := ⟨_, rfl⟩
    have GD : Aside0 (B < gp) := ⟨by rw [← hgp]; exact H1.out.lt (i := 0) rfl⟩
    have hP0 : Pn (V0.alloc (.cells #[.slice none 0 0] 91)) gp gp [] (.slice none 0 0) := ⟨by rw [← hgp]; exact blk_new _ _, Kd.R_nil _ _ _ _ _⟩
    have HP0 := Aside0.mk hP0
    have HB0 : Aside0 (Below gp V0 (V0.alloc (.cells #[.slice none 0 0] 91))) := ⟨by rw [← hgp]; exact below_alloc (Below.refl _ _) _⟩
    have HG0 := Aside0.mk (H1.out.get (i := 0) rfl)
    have HW0 : Aside0 (∀ z, Below gp V0 z → Below B w00 z) := ⟨fun z hz => H1.out.bel.trans (hz.mono (Nat.le_of_lt GD.out))⟩
    clear hP0 H1
    have c0 : ∀ z, Below gp V0 z → z.cell? ⟨B, 0, none⟩ = some (.int .u8 k) := fun z hz => blk_cell ((hz.block B GD.out).trans HG0.out) 0
    have c1 : ∀ z, Below gp V0 z → z.cell? ⟨B, 1, none⟩ = some (.int .u32 t) := fun z hz => blk_cell ((hz.block B GD.out).trans HG0.out) 1
    have c2' : ∀ z, Below gp V0 z → z.cell? ⟨B, 2, none⟩ = some (.int .u32 m) := fun z hz => blk_cell ((hz.block B GD.out).trans HG0.out) 2
    have c3 : ∀ z, Below gp V0 z → z.cell? ⟨B, 3, none⟩ = some (.int .u32 tk) := fun z hz => blk_cell ((hz.block B GD.out).trans HG0.out) 3
    have c4 : ∀ z, Below gp V0 z → z.cell? ⟨B, 4, none⟩ = some (.int .u32 hs) := fun z hz => blk_cell ((hz.block B GD.out).trans HG0.out) 4
    have c5 : ∀ z, Below gp V0 z → z.cell? ⟨B, 5, none⟩ = some (.slice A n c) := fun z hz => blk_cell ((hz.block B GD.out).trans HG0.out) 5
    have c6 : ∀ z, Below gp V0 z → z.cell? ⟨B, 6, none⟩ = some (.slice A2 nc c2) := fun z hz => blk_cell ((hz.block B GD.out).trans HG0.out) 6
    have HCL := Aside0.mk (And.intro c0 (And.intro c1 (And.intro c2' (And.intro c3 (And.intro c4 (And.intro c5 c6))))))
    clear c0 c1 c2' c3 c4 c5 c6
    have HGP := Aside0.mk hgp
    clear hgp
    have c0 := HCL.out.1 _ HB0.out
    go_wp2_with fail
    clear c0
    rw [HGP.out]
    refine (pbyte_any gp gp [] _ k _ HP0.out (Nat.le_refl _) (by simp)).mono ?_
    rintro e V1 ⟨v1, rfl, h1⟩
    have HP1 : Aside0 (Pn V1 gp gp [k] v1) := ⟨h1.1⟩
    have HB1 := Aside0.mk (HB0.out.trans h1.2.2.2)
    clear h1 HP0 HB0
    have c0 := HCL.out.1 _ HB1.out
    by_cases h2 : k = 2
    · subst h2
      have HE : Aside0 (mb = [2] ++ lowN tn 4 ++ lowN mn 4) := ⟨HMB.out⟩
      clear HMB
      go_wp2_with fail
      clear c0
      obtain ⟨e1, e2, HTN2, HTN3⟩ := HTN.out
      subst e1 e2
      refine regionS (W := V1)
        [fun _ v => v = .pointer (some ⟨B, 1, none⟩),
         fun _ v => v = .int .u32 tn,
         fun _ v => v = .pointer (some ⟨gp, 0, none⟩),
         fun _ v => v = .pointer (some ⟨B, 2, none⟩),
         fun _ v => v = .int .u32 mn,
         fun _ v => v = .pointer (some ⟨gp, 0, none⟩)]
        [2, 5]
        (fun t => match t with | 0 => fun (rs : List Value) (w : World) => ∃ v, Pn w gp gp [2] v | 1 => fun (rs : List Value) (w : World) => ∃ v, Pn w gp gp ([2] ++ lowN tn 4) v | 2 => fun (rs : List Value) (w : World) => ∃ v, Pn w gp gp ([2] ++ lowN tn 4 ++ lowN mn 4) v | _ => fun _ _ => False)
        (fun _ _ _ => True) (fun w => Below gp V0 w ∧ gp ≤ w.heap.size)
        (fun j =>  none)
        [(0, some 14), (1, some 15), (2, some 16), (3, some 17), (4, some 18), (5, some 19)]
        []
        (by kernel_rfl) (by kernel_rfl) (by kernel_rfl) (by kernel_rfl) (by kernel_rfl) ?z7_1c ?z7_1i ?z7_1b ?z7_1d ?z7_1g ⟨?z7_1t0, ?z7_1t1, ?z7_1t2, ?z7_1t3, ?z7_1t4, ?z7_1t5, trivial⟩ ⟨?z7_1o0, ?z7_1o1, ?z7_1o2, ?z7_1o3, ?z7_1o4, ?z7_1o5, trivial⟩ ?z7_1e
      case z7_1c => exact ⟨HB1.out.trans (below_drew (Below.refl _ _)), Nat.le_of_lt (blk_lt HP1.out.1)⟩
      case z7_1i => exact ⟨_, HP1.out⟩
      case z7_1b => intro w w' hb h; exact ⟨h.1.trans (hb.mono h.2), Nat.le_trans h.2 hb.size⟩
      case z7_1d =>
        intro t rs w w' hb h
        match t, h with
        | 0, h => (replace h : ∃ v, Pn w gp gp [2] v := h); show ∃ v, Pn w' gp gp [2] v; (obtain ⟨v, h⟩ := h; exact ⟨v, h.below hb⟩)
        | 1, h => (replace h : ∃ v, Pn w gp gp ([2] ++ lowN tn 4) v := h); show ∃ v, Pn w' gp gp ([2] ++ lowN tn 4) v; (obtain ⟨v, h⟩ := h; exact ⟨v, h.below hb⟩)
        | 2, h => (replace h : ∃ v, Pn w gp gp ([2] ++ lowN tn 4 ++ lowN mn 4) v := h); show ∃ v, Pn w' gp gp ([2] ++ lowN tn 4 ++ lowN mn 4) v; (obtain ⟨v, h⟩ := h; exact ⟨v, h.below hb⟩)
        | _ + 3, h => exact h.elim
      case z7_1g =>
        intro j hj; cases hj
      case z7_1t0 => exact StabS.const _ _ _ _
      case z7_1t1 => exact StabS.const _ _ _ _
      case z7_1t2 => exact StabS.const _ _ _ _
      case z7_1t3 => exact StabS.const _ _ _ _
      case z7_1t4 => exact StabS.const _ _ _ _
      case z7_1t5 => exact StabS.const _ _ _ _
      case z7_1o0 =>
        intro vs w t hC ht1 ht2 hS hV
        rw [if_pos (by kernel_rfl)]
        generalize hρ : rho _ _ _ vs = ρ
        have e1 : ρ (.tmp 1) = .pointer (some ⟨B, 0, none⟩) := by rw [← hρ]; kernel_rfl
        clear hρ hV
        refine runs_val (v := .pointer (some ⟨B, 1, none⟩)) (w' := w) ?_ ⟨Below.refl _ _, rfl⟩
        clear ht1 ht2 hS hC
        go_simp <;> (first | exact IntWalk.u64_in _ (by omega) | exact IntWalk.u32_in _ (by omega) | exact IntWalk.u16_in _ (by omega) | exact IntWalk.u8_in _ (by omega) | exact IntWalk.i64_in _ (by omega) | skip)
      case z7_1o1 =>
        intro vs w t hC ht1 ht2 hS hV
        rw [if_pos (by kernel_rfl)]
        generalize hρ : rho _ _ _ vs = ρ
        have d14 : (vs 0) = .pointer (some ⟨B, 1, none⟩) := hV 0 (by kernel_rfl)
        have e14 : ρ (.tmp 14) = vs 0 := by rw [← hρ]; kernel_rfl
        rw [d14] at e14; clear d14
        clear hρ hV
        have c0 := HCL.out.2.1 w hC.1
        refine runs_val (v := .int .u32 tn) (w' := w) ?_ ⟨Below.refl _ _, rfl⟩
        clear ht1 ht2 hS hC
        go_simp
      case z7_1o2 =>
        intro vs w hC hS hV
        replace hS : ∃ v, Pn w gp gp [2] v := hS
        rw [if_pos (by kernel_rfl)]
        generalize hρ : rho _ _ _ vs = ρ
        have e3 : ρ (.tmp 3) = .pointer (some ⟨gp, 0, none⟩) := by rw [← hρ]; kernel_rfl
        have d15 : (vs 1) = .int .u32 tn := hV 1 (by kernel_rfl)
        have e15 : ρ (.tmp 15) = vs 1 := by rw [← hρ]; kernel_rfl
        rw [d15] at e15; clear d15
        have ef39 : ρ (.func 39) = .func (.func 39) #[] #[] := by rw [← hρ]; rfl
        clear hρ hV
        obtain ⟨v, hp⟩ := hS
        refine runs_call (f := 39) (args := #[.pointer (some ⟨gp, 0, none⟩), .int .u32 tn]) (w' := w) ?_ ?_
        · go_simp
        · refine (pword_any gp gp [2] v tn HTN2 w hp (Nat.le_refl _) (by simp)).mono ?_
          rintro e w5 ⟨v', rfl, h⟩
          exact ⟨_, rfl, ⟨hC.1.trans h.2.2.2, Nat.le_trans hC.2 h.2.1.1⟩, trivial, rfl, ⟨v', h.1⟩⟩
      case z7_1o3 =>
        intro vs w t hC ht1 ht2 hS hV
        rw [if_pos (by kernel_rfl)]
        generalize hρ : rho _ _ _ vs = ρ
        have e1 : ρ (.tmp 1) = .pointer (some ⟨B, 0, none⟩) := by rw [← hρ]; kernel_rfl
        clear hρ hV
        refine runs_val (v := .pointer (some ⟨B, 2, none⟩)) (w' := w) ?_ ⟨Below.refl _ _, rfl⟩
        clear ht1 ht2 hS hC
        go_simp <;> (first | exact IntWalk.u64_in _ (by omega) | exact IntWalk.u32_in _ (by omega) | exact IntWalk.u16_in _ (by omega) | exact IntWalk.u8_in _ (by omega) | exact IntWalk.i64_in _ (by omega) | skip)
      case z7_1o4 =>
        intro vs w t hC ht1 ht2 hS hV
        rw [if_pos (by kernel_rfl)]
        generalize hρ : rho _ _ _ vs = ρ
        have d17 : (vs 3) = .pointer (some ⟨B, 2, none⟩) := hV 3 (by kernel_rfl)
        have e17 : ρ (.tmp 17) = vs 3 := by rw [← hρ]; kernel_rfl
        rw [d17] at e17; clear d17
        clear hρ hV
        have c0 := HCL.out.2.2.1 w hC.1
        refine runs_val (v := .int .u32 mn) (w' := w) ?_ ⟨Below.refl _ _, rfl⟩
        clear ht1 ht2 hS hC
        go_simp
      case z7_1o5 =>
        intro vs w hC hS hV
        replace hS : ∃ v, Pn w gp gp ([2] ++ lowN tn 4) v := hS
        rw [if_pos (by kernel_rfl)]
        generalize hρ : rho _ _ _ vs = ρ
        have d16 : (vs 2) = .pointer (some ⟨gp, 0, none⟩) := hV 2 (by kernel_rfl)
        have e16 : ρ (.tmp 16) = vs 2 := by rw [← hρ]; kernel_rfl
        rw [d16] at e16; clear d16
        have d18 : (vs 4) = .int .u32 mn := hV 4 (by kernel_rfl)
        have e18 : ρ (.tmp 18) = vs 4 := by rw [← hρ]; kernel_rfl
        rw [d18] at e18; clear d18
        have ef39 : ρ (.func 39) = .func (.func 39) #[] #[] := by rw [← hρ]; rfl
        clear hρ hV
        obtain ⟨v, hp⟩ := hS
        refine runs_call (f := 39) (args := #[.pointer (some ⟨gp, 0, none⟩), .int .u32 mn]) (w' := w) ?_ ?_
        · go_simp
        · refine (pword_any gp gp ([2] ++ lowN tn 4) v mn HTN3 w hp (Nat.le_refl _) (by rw [List.length_append, lowN_length]; simp)).mono ?_
          rintro e w5 ⟨v', rfl, h⟩
          exact ⟨_, rfl, ⟨hC.1.trans h.2.2.2, Nat.le_trans hC.2 h.2.1.1⟩, trivial, rfl, ⟨v', h.1⟩⟩
      case z7_1e =>
        intro vs V2 hC hS hV
        replace hS : (fun (w : World) => ∃ v, Pn w gp gp ([2] ++ lowN tn 4 ++ lowN mn 4) v) V2 := hS
        have d14 : (vs 0) = .pointer (some ⟨B, 1, none⟩) := hV 0 (Nat.le_of_ble_eq_true rfl)
        have d15 : (vs 1) = .int .u32 tn := hV 1 (Nat.le_of_ble_eq_true rfl)
        have d16 : (vs 2) = .pointer (some ⟨gp, 0, none⟩) := hV 2 (Nat.le_of_ble_eq_true rfl)
        have d17 : (vs 3) = .pointer (some ⟨B, 2, none⟩) := hV 3 (Nat.le_of_ble_eq_true rfl)
        have d18 : (vs 4) = .int .u32 mn := hV 4 (Nat.le_of_ble_eq_true rfl)
        have d19 : (vs 5) = .pointer (some ⟨gp, 0, none⟩) := hV 5 (Nat.le_of_ble_eq_true rfl)
        clear hV
        simp only [putAll]
        rw [d14, d15, d16, d17, d18, d19]
        clear d14 d15 d16 d17 d18 d19
        clear vs
        simp only [Act.put, List.setIfInBounds_toArray, List.set_cons_zero, List.set_cons_succ]
        obtain ⟨v2, hp2⟩ := hS
        have HP2 := Aside0.mk hp2
        have HB2 := Aside0.mk hC.1
        clear hp2 hC
        go_wp2_with fail
        refine (pbytes_any gp gp ([2] ++ lowN tn 4 ++ lowN mn 4) v2 V2 HP2.out (by simp [lowN_length])).mono ?_
        rintro e V9 ⟨v9, rfl, hr9, hb9⟩
        have HR9 := Aside0.mk (Kd.R_lower hr9 (Nat.le_trans (Nat.le_of_lt GD.out) (Nat.le_of_lt (blk_lt HP2.out.1))))
        have HB9 := Aside0.mk (HW0.out _ (HB2.out.trans (hb9.mono (Nat.le_of_lt (blk_lt HP2.out.1)))))
        clear hr9 hb9
        go_wp2_with fail
        go_ret
        rw [HB.out, HE.out]
        exact ⟨_, rfl, HR9.out, HB9.out⟩
    · skip
      by_cases h5 : k = 5
      · subst h5
        have HE : Aside0 (mb = [5] ++ pb) := ⟨HMB.out⟩
        clear HMB
        go_wp2_with fail
        clear c0
        refine regionS (W := V1)
          [fun _ _ => True,
           fun _ v => v = .pointer (some ⟨B, 3, none⟩),
           fun _ v => v = .agg #[.int .u32 tk, .int .u32 hs, .slice A n c, .slice A2 nc c2],
           fun _ _ => True,
           fun _ _ => True,
           fun _ _ => True]
          [0, 3, 4, 5]
          (fun t => match t with | 0 => fun (rs : List Value) (w : World) => ∃ v, Pn w gp gp [5] v | 1 => fun (rs : List Value) (w : World) => (Kd.int .u8).R 5 w gp (fun _ => True) (rs.getD 0 undef) [5] | 2 => fun (rs : List Value) (w : World) => (Kd.int .u8).R 5 w gp (fun _ => True) (rs.getD 0 undef) [5] ∧ (Kd.int .u8).R 5 w gp (fun _ => True) (rs.getD 1 undef) pb | 3 => fun (rs : List Value) (w : World) => (Kd.int .u8).R 5 w gp (fun _ => True) (rs.getD 2 undef) ([5] ++ pb) | 4 => fun (rs : List Value) (w : World) => (Kd.int .u8).R 5 w gp (fun _ => True) (rs.getD 3 undef) ([5] ++ pb) | _ => fun _ _ => False)
          (fun _ _ _ => True) (fun w => Below gp V0 w ∧ gp ≤ w.heap.size)
          (fun j =>  none)
          [(0, some 23), (1, some 24), (2, some 25), (3, some 26), (4, some 27), (5, some 2)]
          []
          (by kernel_rfl) (by kernel_rfl) (by kernel_rfl) (by kernel_rfl) (by kernel_rfl) ?z10_2c ?z10_2i ?z10_2b ?z10_2d ?z10_2g ⟨?z10_2t0, ?z10_2t1, ?z10_2t2, ?z10_2t3, ?z10_2t4, ?z10_2t5, trivial⟩ ⟨?z10_2o0, ?z10_2o1, ?z10_2o2, ?z10_2o3, ?z10_2o4, ?z10_2o5, trivial⟩ ?z10_2e
        case z10_2c => exact ⟨HB1.out.trans (below_drew (Below.refl _ _)), Nat.le_of_lt (blk_lt HP1.out.1)⟩
        case z10_2i => exact ⟨_, HP1.out⟩
        case z10_2b => intro w w' hb h; exact ⟨h.1.trans (hb.mono h.2), Nat.le_trans h.2 hb.size⟩
        case z10_2d =>
          intro t rs w w' hb h
          match t, h with
          | 0, h => (replace h : ∃ v, Pn w gp gp [5] v := h); show ∃ v, Pn w' gp gp [5] v; first | exact Kd.R_below h hb | exact ⟨Kd.R_below h.1 hb, Kd.R_below h.2 hb⟩ | (obtain ⟨v, h⟩ := h; exact ⟨v, h.below hb⟩)
          | 1, h => (replace h : (Kd.int .u8).R 5 w gp (fun _ => True) (rs.getD 0 undef) [5] := h); show (Kd.int .u8).R 5 w' gp (fun _ => True) (rs.getD 0 undef) [5]; first | exact Kd.R_below h hb | exact ⟨Kd.R_below h.1 hb, Kd.R_below h.2 hb⟩ | (obtain ⟨v, h⟩ := h; exact ⟨v, h.below hb⟩)
          | 2, h => (replace h : (Kd.int .u8).R 5 w gp (fun _ => True) (rs.getD 0 undef) [5] ∧ (Kd.int .u8).R 5 w gp (fun _ => True) (rs.getD 1 undef) pb := h); show (Kd.int .u8).R 5 w' gp (fun _ => True) (rs.getD 0 undef) [5] ∧ (Kd.int .u8).R 5 w' gp (fun _ => True) (rs.getD 1 undef) pb; first | exact Kd.R_below h hb | exact ⟨Kd.R_below h.1 hb, Kd.R_below h.2 hb⟩ | (obtain ⟨v, h⟩ := h; exact ⟨v, h.below hb⟩)
          | 3, h => (replace h : (Kd.int .u8).R 5 w gp (fun _ => True) (rs.getD 2 undef) ([5] ++ pb) := h); show (Kd.int .u8).R 5 w' gp (fun _ => True) (rs.getD 2 undef) ([5] ++ pb); first | exact Kd.R_below h hb | exact ⟨Kd.R_below h.1 hb, Kd.R_below h.2 hb⟩ | (obtain ⟨v, h⟩ := h; exact ⟨v, h.below hb⟩)
          | 4, h => (replace h : (Kd.int .u8).R 5 w gp (fun _ => True) (rs.getD 3 undef) ([5] ++ pb) := h); show (Kd.int .u8).R 5 w' gp (fun _ => True) (rs.getD 3 undef) ([5] ++ pb); first | exact Kd.R_below h hb | exact ⟨Kd.R_below h.1 hb, Kd.R_below h.2 hb⟩ | (obtain ⟨v, h⟩ := h; exact ⟨v, h.below hb⟩)
          | _ + 5, h => exact h.elim
        case z10_2g =>
          intro j hj; cases hj
        case z10_2t0 => exact StabS.const _ _ _ _
        case z10_2t1 => exact StabS.const _ _ _ _
        case z10_2t2 => exact StabS.const _ _ _ _
        case z10_2t3 => exact StabS.const _ _ _ _
        case z10_2t4 => exact StabS.const _ _ _ _
        case z10_2t5 => exact StabS.const _ _ _ _
        case z10_2o0 =>
          intro vs w hC hS hV
          replace hS : ∃ v, Pn w gp gp [5] v := hS
          rw [if_pos (by kernel_rfl)]
          generalize hρ : rho _ _ _ vs = ρ
          have e3 : ρ (.tmp 3) = .pointer (some ⟨gp, 0, none⟩) := by rw [← hρ]; kernel_rfl
          have ef40 : ρ (.func 40) = .func (.func 40) #[] #[] := by rw [← hρ]; rfl
          clear hρ hV
          obtain ⟨v, hp⟩ := hS
          refine runs_call (f := 40) (args := #[.pointer (some ⟨gp, 0, none⟩)]) (w' := w) ?_ ?_
          · go_simp
          · refine (pbytes_any gp gp [5] v w hp (by simp)).mono ?_
            rintro e w5 ⟨v9, rfl, hr9, hb9⟩
            exact ⟨_, rfl, ⟨hC.1.trans (hb9.mono hC.2), Nat.le_trans hC.2 hb9.size⟩, trivial, trivial, Kd.R_lower hr9 hC.2⟩
        case z10_2o1 =>
          intro vs w t hC ht1 ht2 hS hV
          rw [if_pos (by kernel_rfl)]
          generalize hρ : rho _ _ _ vs = ρ
          have e1 : ρ (.tmp 1) = .pointer (some ⟨B, 0, none⟩) := by rw [← hρ]; kernel_rfl
          clear hρ hV
          refine runs_val (v := .pointer (some ⟨B, 3, none⟩)) (w' := w) ?_ ⟨Below.refl _ _, rfl⟩
          clear ht1 ht2 hS hC
          go_simp <;> (first | exact IntWalk.u64_in _ (by omega) | exact IntWalk.u32_in _ (by omega) | exact IntWalk.u16_in _ (by omega) | exact IntWalk.u8_in _ (by omega) | exact IntWalk.i64_in _ (by omega) | skip)
        case z10_2o2 =>
          intro vs w t hC ht1 ht2 hS hV
          rw [if_pos (by kernel_rfl)]
          generalize hρ : rho _ _ _ vs = ρ
          have d24 : (vs 1) = .pointer (some ⟨B, 3, none⟩) := hV 1 (by kernel_rfl)
          have e24 : ρ (.tmp 24) = vs 1 := by rw [← hρ]; kernel_rfl
          rw [d24] at e24; clear d24
          clear hρ hV
          have c3 := HCL.out.2.2.2.1 w hC.1
          have c4 := HCL.out.2.2.2.2.1 w hC.1
          have c5 := HCL.out.2.2.2.2.2.1 w hC.1
          have c6 := HCL.out.2.2.2.2.2.2 w hC.1
          refine runs_val (v := .agg #[.int .u32 tk, .int .u32 hs, .slice A n c, .slice A2 nc c2]) (w' := w) ?_ ⟨Below.refl _ _, rfl⟩
          clear ht1 ht2 hS hC
          go_simp
        case z10_2o3 =>
          intro vs w hC hS hV
          replace hS : (Kd.int .u8).R 5 w gp (fun _ => True) (vs 0) [5] := hS
          rw [if_pos (by kernel_rfl)]
          generalize hρ : rho _ _ _ vs = ρ
          have d25 : (vs 2) = .agg #[.int .u32 tk, .int .u32 hs, .slice A n c, .slice A2 nc c2] := hV 2 (by kernel_rfl)
          have e25 : ρ (.tmp 25) = vs 2 := by rw [← hρ]; kernel_rfl
          rw [d25] at e25; clear d25
          have ef41 : ρ (.func 41) = .func (.func 41) #[] #[] := by rw [← hρ]; rfl
          clear hρ hV
          refine runs_call (f := 41) (args := #[.agg #[.int .u32 tk, .int .u32 hs, .slice A n c, .slice A2 nc c2]]) (w' := w) ?_ ?_
          · go_simp
          · refine (KB.out w (HW0.out w hC.1)).mono ?_
            rintro e w5 ⟨v9, rfl, hr9, hb9⟩
            exact ⟨_, rfl, ⟨hC.1.trans (hb9.mono hC.2), Nat.le_trans hC.2 hb9.size⟩, trivial, trivial, Kd.R_below hS hb9, Kd.R_lower hr9 hC.2⟩
        case z10_2o4 =>
          intro vs w hC hS hV
          replace hS : (Kd.int .u8).R 5 w gp (fun _ => True) (vs 0) [5] ∧ (Kd.int .u8).R 5 w gp (fun _ => True) (vs 3) pb := hS
          rw [if_pos (by kernel_rfl)]
          generalize hρ : rho _ _ _ vs = ρ
          have d23 : (fun (w : World) (v : Value) => True) w (vs 0) := hV 0 (by kernel_rfl)
          have e23 : ρ (.tmp 23) = vs 0 := by rw [← hρ]; kernel_rfl
          have d26 : (fun (w : World) (v : Value) => True) w (vs 3) := hV 3 (by kernel_rfl)
          have e26 : ρ (.tmp 26) = vs 3 := by rw [← hρ]; kernel_rfl
          clear hρ hV
          obtain ⟨A5, c5, h5, l5, q5⟩ := Kd.R_reads hS.2
          rw [h5] at e26
          refine runs_append (Kd.int .u8) (Rr := fun x cs => cs = [.int .u8 x]) gp 23 26 23 5 (.int .u8 0) 1 rfl Try.underlying23 np_info rfl (by decide) (by decide) (vs 0) [5] pb A5 pb.length c5 (fun _ => True) (fun _ => False) e23 e26 hS.1 q5 (fun _ _ h => h) (fun _ h => h.elim) (fun _ _ => trivial) hC.2 (by have := HPL.out; simp; omega) ?_
          intro v1 w1 h1 hg1 hat
          exact ⟨⟨hC.1.trans ((Below.refl gp w).grown hg1 hC.2 (fun j hj => Kd.R_base hS.1 j hj)), Nat.le_trans hC.2 hg1.size⟩, trivial, trivial, h1⟩
        case z10_2o5 =>
          intro vs w hC hS hV
          replace hS : (Kd.int .u8).R 5 w gp (fun _ => True) (vs 4) ([5] ++ pb) := hS
          rw [if_pos (by kernel_rfl)]
          generalize hρ : rho _ _ _ vs = ρ
          have d27 : (fun (w : World) (v : Value) => True) w (vs 4) := hV 4 (by kernel_rfl)
          have e27 : ρ (.tmp 27) = vs 4 := by rw [← hρ]; kernel_rfl
          clear hρ hV
          refine runs_val (v := vs 4) (w' := w) ?_ ⟨hC, trivial, trivial, hS⟩
          clear hS hC
          go_simp
        case z10_2e =>
          intro vs V2 hC hS hV
          replace hS : (fun (w : World) => (Kd.int .u8).R 5 w gp (fun _ => True) (vs 5) ([5] ++ pb)) V2 := hS
          have d23 : (fun (w : World) (v : Value) => True) V2 (vs 0) := hV 0 (Nat.le_of_ble_eq_true rfl)
          have d24 : (vs 1) = .pointer (some ⟨B, 3, none⟩) := hV 1 (Nat.le_of_ble_eq_true rfl)
          have d25 : (vs 2) = .agg #[.int .u32 tk, .int .u32 hs, .slice A n c, .slice A2 nc c2] := hV 2 (Nat.le_of_ble_eq_true rfl)
          have d26 : (fun (w : World) (v : Value) => True) V2 (vs 3) := hV 3 (Nat.le_of_ble_eq_true rfl)
          have d27 : (fun (w : World) (v : Value) => True) V2 (vs 4) := hV 4 (Nat.le_of_ble_eq_true rfl)
          have d2 : (fun (w : World) (v : Value) => True) V2 (vs 5) := hV 5 (Nat.le_of_ble_eq_true rfl)
          clear hV
          simp only [putAll]
          rw [d24, d25]
          clear d24 d25
          generalize vs 0 = v23 at *
          generalize vs 3 = v26 at *
          generalize vs 4 = v27 at *
          generalize vs 5 = v2 at *
          clear vs
          simp only [Act.put, List.setIfInBounds_toArray, List.set_cons_zero, List.set_cons_succ]
          have HR2 := Aside0.mk (Kd.R_lower hS (Nat.le_of_lt GD.out))
          have HB2 := Aside0.mk (HW0.out _ hC.1)
          clear hS hC
          go_wp2_with fail
          go_ret
          rw [HB.out, HE.out]
          exact ⟨_, rfl, HR2.out, HB2.out⟩
      · skip
        by_cases h6 : k = 6
        · subst h6
          have HE : Aside0 (mb = [6] ++ pb) := ⟨HMB.out⟩
          clear HMB
          go_wp2_with fail
          clear c0
          refine regionS (W := V1)
            [fun _ _ => True,
             fun _ v => v = .pointer (some ⟨B, 3, none⟩),
             fun _ v => v = .agg #[.int .u32 tk, .int .u32 hs, .slice A n c, .slice A2 nc c2],
             fun _ _ => True,
             fun _ _ => True,
             fun _ _ => True]
            [0, 3, 4, 5]
            (fun t => match t with | 0 => fun (rs : List Value) (w : World) => ∃ v, Pn w gp gp [6] v | 1 => fun (rs : List Value) (w : World) => (Kd.int .u8).R 5 w gp (fun _ => True) (rs.getD 0 undef) [6] | 2 => fun (rs : List Value) (w : World) => (Kd.int .u8).R 5 w gp (fun _ => True) (rs.getD 0 undef) [6] ∧ (Kd.int .u8).R 5 w gp (fun _ => True) (rs.getD 1 undef) pb | 3 => fun (rs : List Value) (w : World) => (Kd.int .u8).R 5 w gp (fun _ => True) (rs.getD 2 undef) ([6] ++ pb) | 4 => fun (rs : List Value) (w : World) => (Kd.int .u8).R 5 w gp (fun _ => True) (rs.getD 3 undef) ([6] ++ pb) | _ => fun _ _ => False)
            (fun _ _ _ => True) (fun w => Below gp V0 w ∧ gp ≤ w.heap.size)
            (fun j =>  none)
            [(0, some 23), (1, some 24), (2, some 25), (3, some 26), (4, some 27), (5, some 2)]
            []
            (by kernel_rfl) (by kernel_rfl) (by kernel_rfl) (by kernel_rfl) (by kernel_rfl) ?z10_3c ?z10_3i ?z10_3b ?z10_3d ?z10_3g ⟨?z10_3t0, ?z10_3t1, ?z10_3t2, ?z10_3t3, ?z10_3t4, ?z10_3t5, trivial⟩ ⟨?z10_3o0, ?z10_3o1, ?z10_3o2, ?z10_3o3, ?z10_3o4, ?z10_3o5, trivial⟩ ?z10_3e
          case z10_3c => exact ⟨HB1.out.trans (below_drew (Below.refl _ _)), Nat.le_of_lt (blk_lt HP1.out.1)⟩
          case z10_3i => exact ⟨_, HP1.out⟩
          case z10_3b => intro w w' hb h; exact ⟨h.1.trans (hb.mono h.2), Nat.le_trans h.2 hb.size⟩
          case z10_3d =>
            intro t rs w w' hb h
            match t, h with
            | 0, h => (replace h : ∃ v, Pn w gp gp [6] v := h); show ∃ v, Pn w' gp gp [6] v; first | exact Kd.R_below h hb | exact ⟨Kd.R_below h.1 hb, Kd.R_below h.2 hb⟩ | (obtain ⟨v, h⟩ := h; exact ⟨v, h.below hb⟩)
            | 1, h => (replace h : (Kd.int .u8).R 5 w gp (fun _ => True) (rs.getD 0 undef) [6] := h); show (Kd.int .u8).R 5 w' gp (fun _ => True) (rs.getD 0 undef) [6]; first | exact Kd.R_below h hb | exact ⟨Kd.R_below h.1 hb, Kd.R_below h.2 hb⟩ | (obtain ⟨v, h⟩ := h; exact ⟨v, h.below hb⟩)
            | 2, h => (replace h : (Kd.int .u8).R 5 w gp (fun _ => True) (rs.getD 0 undef) [6] ∧ (Kd.int .u8).R 5 w gp (fun _ => True) (rs.getD 1 undef) pb := h); show (Kd.int .u8).R 5 w' gp (fun _ => True) (rs.getD 0 undef) [6] ∧ (Kd.int .u8).R 5 w' gp (fun _ => True) (rs.getD 1 undef) pb; first | exact Kd.R_below h hb | exact ⟨Kd.R_below h.1 hb, Kd.R_below h.2 hb⟩ | (obtain ⟨v, h⟩ := h; exact ⟨v, h.below hb⟩)
            | 3, h => (replace h : (Kd.int .u8).R 5 w gp (fun _ => True) (rs.getD 2 undef) ([6] ++ pb) := h); show (Kd.int .u8).R 5 w' gp (fun _ => True) (rs.getD 2 undef) ([6] ++ pb); first | exact Kd.R_below h hb | exact ⟨Kd.R_below h.1 hb, Kd.R_below h.2 hb⟩ | (obtain ⟨v, h⟩ := h; exact ⟨v, h.below hb⟩)
            | 4, h => (replace h : (Kd.int .u8).R 5 w gp (fun _ => True) (rs.getD 3 undef) ([6] ++ pb) := h); show (Kd.int .u8).R 5 w' gp (fun _ => True) (rs.getD 3 undef) ([6] ++ pb); first | exact Kd.R_below h hb | exact ⟨Kd.R_below h.1 hb, Kd.R_below h.2 hb⟩ | (obtain ⟨v, h⟩ := h; exact ⟨v, h.below hb⟩)
            | _ + 5, h => exact h.elim
          case z10_3g =>
            intro j hj; cases hj
          case z10_3t0 => exact StabS.const _ _ _ _
          case z10_3t1 => exact StabS.const _ _ _ _
          case z10_3t2 => exact StabS.const _ _ _ _
          case z10_3t3 => exact StabS.const _ _ _ _
          case z10_3t4 => exact StabS.const _ _ _ _
          case z10_3t5 => exact StabS.const _ _ _ _
          case z10_3o0 =>
            intro vs w hC hS hV
            replace hS : ∃ v, Pn w gp gp [6] v := hS
            rw [if_pos (by kernel_rfl)]
            generalize hρ : rho _ _ _ vs = ρ
            have e3 : ρ (.tmp 3) = .pointer (some ⟨gp, 0, none⟩) := by rw [← hρ]; kernel_rfl
            have ef40 : ρ (.func 40) = .func (.func 40) #[] #[] := by rw [← hρ]; rfl
            clear hρ hV
            obtain ⟨v, hp⟩ := hS
            refine runs_call (f := 40) (args := #[.pointer (some ⟨gp, 0, none⟩)]) (w' := w) ?_ ?_
            · go_simp
            · refine (pbytes_any gp gp [6] v w hp (by simp)).mono ?_
              rintro e w5 ⟨v9, rfl, hr9, hb9⟩
              exact ⟨_, rfl, ⟨hC.1.trans (hb9.mono hC.2), Nat.le_trans hC.2 hb9.size⟩, trivial, trivial, Kd.R_lower hr9 hC.2⟩
          case z10_3o1 =>
            intro vs w t hC ht1 ht2 hS hV
            rw [if_pos (by kernel_rfl)]
            generalize hρ : rho _ _ _ vs = ρ
            have e1 : ρ (.tmp 1) = .pointer (some ⟨B, 0, none⟩) := by rw [← hρ]; kernel_rfl
            clear hρ hV
            refine runs_val (v := .pointer (some ⟨B, 3, none⟩)) (w' := w) ?_ ⟨Below.refl _ _, rfl⟩
            clear ht1 ht2 hS hC
            go_simp <;> (first | exact IntWalk.u64_in _ (by omega) | exact IntWalk.u32_in _ (by omega) | exact IntWalk.u16_in _ (by omega) | exact IntWalk.u8_in _ (by omega) | exact IntWalk.i64_in _ (by omega) | skip)
          case z10_3o2 =>
            intro vs w t hC ht1 ht2 hS hV
            rw [if_pos (by kernel_rfl)]
            generalize hρ : rho _ _ _ vs = ρ
            have d24 : (vs 1) = .pointer (some ⟨B, 3, none⟩) := hV 1 (by kernel_rfl)
            have e24 : ρ (.tmp 24) = vs 1 := by rw [← hρ]; kernel_rfl
            rw [d24] at e24; clear d24
            clear hρ hV
            have c3 := HCL.out.2.2.2.1 w hC.1
            have c4 := HCL.out.2.2.2.2.1 w hC.1
            have c5 := HCL.out.2.2.2.2.2.1 w hC.1
            have c6 := HCL.out.2.2.2.2.2.2 w hC.1
            refine runs_val (v := .agg #[.int .u32 tk, .int .u32 hs, .slice A n c, .slice A2 nc c2]) (w' := w) ?_ ⟨Below.refl _ _, rfl⟩
            clear ht1 ht2 hS hC
            go_simp
          case z10_3o3 =>
            intro vs w hC hS hV
            replace hS : (Kd.int .u8).R 5 w gp (fun _ => True) (vs 0) [6] := hS
            rw [if_pos (by kernel_rfl)]
            generalize hρ : rho _ _ _ vs = ρ
            have d25 : (vs 2) = .agg #[.int .u32 tk, .int .u32 hs, .slice A n c, .slice A2 nc c2] := hV 2 (by kernel_rfl)
            have e25 : ρ (.tmp 25) = vs 2 := by rw [← hρ]; kernel_rfl
            rw [d25] at e25; clear d25
            have ef41 : ρ (.func 41) = .func (.func 41) #[] #[] := by rw [← hρ]; rfl
            clear hρ hV
            refine runs_call (f := 41) (args := #[.agg #[.int .u32 tk, .int .u32 hs, .slice A n c, .slice A2 nc c2]]) (w' := w) ?_ ?_
            · go_simp
            · refine (KB.out w (HW0.out w hC.1)).mono ?_
              rintro e w5 ⟨v9, rfl, hr9, hb9⟩
              exact ⟨_, rfl, ⟨hC.1.trans (hb9.mono hC.2), Nat.le_trans hC.2 hb9.size⟩, trivial, trivial, Kd.R_below hS hb9, Kd.R_lower hr9 hC.2⟩
          case z10_3o4 =>
            intro vs w hC hS hV
            replace hS : (Kd.int .u8).R 5 w gp (fun _ => True) (vs 0) [6] ∧ (Kd.int .u8).R 5 w gp (fun _ => True) (vs 3) pb := hS
            rw [if_pos (by kernel_rfl)]
            generalize hρ : rho _ _ _ vs = ρ
            have d23 : (fun (w : World) (v : Value) => True) w (vs 0) := hV 0 (by kernel_rfl)
            have e23 : ρ (.tmp 23) = vs 0 := by rw [← hρ]; kernel_rfl
            have d26 : (fun (w : World) (v : Value) => True) w (vs 3) := hV 3 (by kernel_rfl)
            have e26 : ρ (.tmp 26) = vs 3 := by rw [← hρ]; kernel_rfl
            clear hρ hV
            obtain ⟨A5, c5, h5, l5, q5⟩ := Kd.R_reads hS.2
            rw [h5] at e26
            refine runs_append (Kd.int .u8) (Rr := fun x cs => cs = [.int .u8 x]) gp 23 26 23 5 (.int .u8 0) 1 rfl Try.underlying23 np_info rfl (by decide) (by decide) (vs 0) [6] pb A5 pb.length c5 (fun _ => True) (fun _ => False) e23 e26 hS.1 q5 (fun _ _ h => h) (fun _ h => h.elim) (fun _ _ => trivial) hC.2 (by have := HPL.out; simp; omega) ?_
            intro v1 w1 h1 hg1 hat
            exact ⟨⟨hC.1.trans ((Below.refl gp w).grown hg1 hC.2 (fun j hj => Kd.R_base hS.1 j hj)), Nat.le_trans hC.2 hg1.size⟩, trivial, trivial, h1⟩
          case z10_3o5 =>
            intro vs w hC hS hV
            replace hS : (Kd.int .u8).R 5 w gp (fun _ => True) (vs 4) ([6] ++ pb) := hS
            rw [if_pos (by kernel_rfl)]
            generalize hρ : rho _ _ _ vs = ρ
            have d27 : (fun (w : World) (v : Value) => True) w (vs 4) := hV 4 (by kernel_rfl)
            have e27 : ρ (.tmp 27) = vs 4 := by rw [← hρ]; kernel_rfl
            clear hρ hV
            refine runs_val (v := vs 4) (w' := w) ?_ ⟨hC, trivial, trivial, hS⟩
            clear hS hC
            go_simp
          case z10_3e =>
            intro vs V2 hC hS hV
            replace hS : (fun (w : World) => (Kd.int .u8).R 5 w gp (fun _ => True) (vs 5) ([6] ++ pb)) V2 := hS
            have d23 : (fun (w : World) (v : Value) => True) V2 (vs 0) := hV 0 (Nat.le_of_ble_eq_true rfl)
            have d24 : (vs 1) = .pointer (some ⟨B, 3, none⟩) := hV 1 (Nat.le_of_ble_eq_true rfl)
            have d25 : (vs 2) = .agg #[.int .u32 tk, .int .u32 hs, .slice A n c, .slice A2 nc c2] := hV 2 (Nat.le_of_ble_eq_true rfl)
            have d26 : (fun (w : World) (v : Value) => True) V2 (vs 3) := hV 3 (Nat.le_of_ble_eq_true rfl)
            have d27 : (fun (w : World) (v : Value) => True) V2 (vs 4) := hV 4 (Nat.le_of_ble_eq_true rfl)
            have d2 : (fun (w : World) (v : Value) => True) V2 (vs 5) := hV 5 (Nat.le_of_ble_eq_true rfl)
            clear hV
            simp only [putAll]
            rw [d24, d25]
            clear d24 d25
            generalize vs 0 = v23 at *
            generalize vs 3 = v26 at *
            generalize vs 4 = v27 at *
            generalize vs 5 = v2 at *
            clear vs
            simp only [Act.put, List.setIfInBounds_toArray, List.set_cons_zero, List.set_cons_succ]
            have HR2 := Aside0.mk (Kd.R_lower hS (Nat.le_of_lt GD.out))
            have HB2 := Aside0.mk (HW0.out _ hC.1)
            clear hS hC
            go_wp2_with fail
            go_ret
            rw [HB.out, HE.out]
            exact ⟨_, rfl, HR2.out, HB2.out⟩
        · skip
          have HE : Aside0 (mb = [k]) := ⟨by rw [HMB.out, if_neg h2, if_neg (by omega)]⟩
          clear HMB
          go_wp2_with fail
          refine (pbytes_any gp gp [k] v1 V1 HP1.out (by simp [lowN_length])).mono ?_
          rintro e V9 ⟨v9, rfl, hr9, hb9⟩
          have HR9 := Aside0.mk (Kd.R_lower hr9 (Nat.le_trans (Nat.le_of_lt GD.out) (Nat.le_of_lt (blk_lt HP1.out.1))))
          have HB9 := Aside0.mk (HW0.out _ (HB1.out.trans (hb9.mono (Nat.le_of_lt (blk_lt HP1.out.1)))))
          clear hr9 hb9
          go_wp2_with fail
          go_ret
          rw [HB.out, HE.out]
          exact ⟨_, rfl, HR9.out, HB9.out⟩
set_option maxRecDepth 100000 in
set_option maxHeartbeats 4000000 in
theorem msize_any (k t m tk hs : Int) (P : List Int) (C : List S59) (v : Value) (w00 : World) (hv : MsC w00 k t m tk hs P C v) (hk : OkM k t m tk hs P C) :
    Calls Try.prog 16 #[v] w00 fun e w' => e = .returned (.int .i64 (mBytes k t m tk hs P C).length) ∧ Below w00.heap.size w00 w' := by
  have KB := Aside0.mk (fun (z : World) (h : Below w00.heap.size w00 z) => mbytes_any k t m tk hs P C v z (hv.below h) hk)
  obtain ⟨A, c, A2, c2, rfl, h2, h3, h4, h5⟩ := hv
  obtain ⟨n, hn⟩ : ∃ n, P.length = n := ⟨_, rfl⟩
  obtain ⟨nc, hnc⟩ : ∃ nc, C.length = nc := ⟨_, rfl⟩
  rw [hn, hnc] at KB
  rw [hn, hnc]
  have H0 := Aside0.mk ((Hp.start w00).alloc (.cells #[.int .u8 k, .int .u32 t, .int .u32 m, .int .u32 tk, .int .u32 hs, .slice A n c, .slice A2 nc c2] 28))
  clear hk h2 h3 h4 h5 hn hnc
  go_enter Try.func16, Try.ntmps16
  go_wp2_with (first | (refine wpList_load_row_g 28 (.tmp 1) rfl w00.heap.size rfl rfl 28 _ (0, 0) _ (H0.out.get (i := 0) rfl) Try.underlying28 rfl (msg_info _ _ _ _ _ _ _) ?_))
  refine (KB.out _ H0.out.bel).mono ?_
  rintro e w1 ⟨v1, rfl, hv1, hb1⟩
  have H1 := Aside0.mk (H0.out.call hb1)
  obtain ⟨A5, c5, rfl, l5, _⟩ := Kd.R_reads hv1
  clear hv1 hb1 H0 KB
  go_wp2_with fail
  go_ret
  exact ⟨rfl, H1.out.bel⟩
end Go.Proofs.Yticpjidcgaaldaa
