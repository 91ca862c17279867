/- The parts of this proof, one behind the other: contracts of the functions, plain laws, the walk. -/
import Derived.Test.YticpjidcgaaldaaMfoa
import Derived.Lib.SliceRun
import Derived.WalkSpells
import Derived.Lib.LazyBuf
namespace Go.Proofs.Yticpjidcgaaldaa
open Go.RowKit Go.Proofs.YticpjidcgaaldaaW.PrintWords Go.Proofs.YticpjidcgaaldaaW.PrintLast Go.Proofs.YticpjidcgaaldaaW.PrintMore
set_option linter.unusedVariables false

structure Inv5 (ops : Array Oper) (a0 : Act) (I : (Nat → Bool) → (Nat → Value) → World → Prop) (L : Nat → Bool) (vs : Nat → Value) (a : Act) (w : World) : Prop where
  defers : a.defers = a0.defers
  size : a.tmps.size = a0.tmps.size
  slot : ∀ s, a.tmps.getD s undef = look ops a0 L vs s
  closed : ∀ i o, ops[i]? = some o → L i = true → ∀ j, depOn o j = true → L j = true
  inv : I L vs w
section
variable {P : Program} {ops : Array Oper} {Q : Exit → Act → World → Prop} {a0 : Act} {I : (Nat → Bool) → (Nat → Value) → World → Prop} {yv : Nat → Option Bool}
variable (hok : regionOk ops a0.tmps.size = true)
  (hyv : ∀ (i : Nat) (o : Oper) (j : Nat) (b : Bool), ops[i]? = some o → o.guard = some (j, b) → ∀ L vs w, I L vs w → L j = true → boolOf (vs j) = yv j)
  (hop : ∀ i o, ops[i]? = some o → ∀ (L : Nat → Bool) (vs : Nat → Value) w, L i = false → (∀ k o', ops[k]? = some o' → L k = true → ∀ j, depOn o' j = true → L j = true) → (∀ j, depOn o j = true → L j = true) → I L vs w →
    if wants yv o = true then runs P o (rho ops a0 (depOn o) vs) w (fun v w' => I (fun k => if k = i then true else L k) (fun k => if k = i then v else vs k) w') else I (fun k => if k = i then true else L k) (fun k => if k = i then undef else vs k) w)
  (hend : ∀ (L : Nat → Bool) (vs : Nat → Value) w a, (∀ i, i < ops.size → L i = true) → I L vs w → a.defers = a0.defers → a.tmps.size = a0.tmps.size → (∀ s, a.tmps.getD s undef = look ops a0 (fun _ => true) vs s) → Q .normal a w)
include hend in
theorem end_ok5 {listed : Array Bool} {vs : Nat → Value} {a : Act} {w : World} (hall : ∀ i, i < ops.size → listed.getD i false = true) (J : Inv5 ops a0 I (fun i => listed.getD i false) vs a w) : Q .normal a w :=
  hend _ vs w a hall J.inv J.defers J.size (fun s => by rw [J.slot s]; exact look_all hall s)
include hok hyv hop hend in
theorem any_ok5 : ∀ (fuel : Nat) (listed : Array Bool) (vs : Nat → Value) (a : Act) (w : World), listed.size = ops.size → ((List.range ops.size).filter (fun i => !listed.getD i false)).length ≤ fuel →
    Inv5 ops a0 I (fun i => listed.getD i false) vs a w → wpAny P .any ops Q fuel listed a w
  | 0, listed, vs, a, w, hs, hc, J => by
    have hall : ∀ i, i < ops.size → listed.getD i false = true := by
      intro i hi
      cases hb : listed.getD i false with
      | true => rfl
      | false =>
        exfalso
        have hm : i ∈ (List.range ops.size).filter (fun i => !listed.getD i false) := List.mem_filter.2 ⟨List.mem_range.2 hi, by simp [hb]⟩
        have := List.length_pos_of_mem hm
        omega
    refine ⟨?_, end_ok5 hend hall J⟩
    rw [List.eq_nil_iff_forall_not_mem]
    intro j hj
    obtain ⟨h1, o, ho, _⟩ := mem_ready.1 hj
    have hjn : j < ops.size := (Array.getElem?_eq_some_iff.1 ho).1
    rw [getD_of_lt (by omega) true false, hall j hjn] at h1
    cases h1
  | fuel + 1, listed, vs, a, w, hs, hc, J => by
    refine ⟨fun hr => end_ok5 hend (all_listed hok hs hr) J, fun i hi => ?_⟩
    obtain ⟨h1, o, ho, hdeps⟩ := mem_ready.1 hi
    have hin : i < ops.size := (Array.getElem?_eq_some_iff.1 ho).1
    have hun : listed.getD i false = false := by rw [getD_of_lt (by omega) false true]; exact h1
    have F := fact_of hok ho
    have hdep : ∀ j, depOn o j = true → listed.getD j false = true := by
      intro j hj
      unfold depOn at hj
      rw [Array.any_eq_true'] at hj
      obtain ⟨e, he, hb⟩ := hj
      simp only [Bool.and_eq_true, beq_iff_eq] at hb
      obtain ⟨hb, rfl⟩ := hb
      exact hdeps e he hb
    -- what it reads
    have hlk : ∀ s, .tmp s ∈ o.op.operands → look ops a0 (fun i => listed.getD i false) vs s = look ops a0 (depOn o) vs s := by
      intro s hso
      unfold look
      rw [find_congr (q := fun k => depOn o k && dstOf ops k == some s)]
      intro k hk
      show (listed.getD k false && dstOf ops k == some s) = (depOn o k && dstOf ops k == some s)
      by_cases hd : dstOf ops k = some s
      · have e1 : listed.getD k false = depOn o k := by
          by_cases hki : k = i
          · subst hki
            rw [hun]
            cases hb : depOn o k with
            | false => rfl
            | true => exact absurd (F.back k hb) (by omega)
          · cases hb : depOn o k with
            | true => exact hdep k hb
            | false =>
              rcases F.reads s hso k hk hki hd with h | ⟨o', ho', h⟩
              · rw [hb] at h; cases h
              · cases hl : listed.getD k false with
                | false => rfl
                | true =>
                  have := J.closed k o' ho' hl i h
                  rw [hun] at this; cases this
        rw [e1]
      · have : (dstOf ops k == some s) = false := by simpa using hd
        rw [this, Bool.and_false, Bool.and_false]
    have hev : execOp a.eval o = execOp (rho ops a0 (depOn o) vs) o := by
      refine execOp_congr o F.sel fun x hx => ?_
      cases x with
      | tmp s =>
        show a.tmps.getD s undef = look ops a0 (depOn o) vs s
        rw [J.slot s]; exact hlk s hx
      | const v => rfl
      | global g => rfl
      | func f => rfl
    -- is it wanted
    have hw : Region.wanted o (yielded ops a.tmps) = wants yv o := by
      unfold Region.wanted wants
      cases hg : o.guard with
      | none => rfl
      | some jb =>
        obtain ⟨j, b⟩ := jb
        obtain ⟨hdj, hds⟩ := F.guard j b hg
        have hjn : j < ops.size := by have := F.back j hdj; omega
        obtain ⟨d, hd⟩ := Option.isSome_iff_exists.1 hds
        have Fj := fact_of hok (Array.getElem?_eq_getElem hjn)
        have hdj' : ops[j].dst = some d := by
          have := hd
          unfold dstOf at this
          rw [Array.getElem?_eq_getElem hjn] at this
          exact this
        have hsl : a.tmps.getD d undef = vs j := by
          rw [J.slot d]
          unfold look
          rw [find_unique (i := j) hjn (by simp only [hdep j hdj, hd, beq_self_eq_true, Bool.and_self]) (fun k hk hp => by
            by_cases e : k = j
            · exact e
            · simp only [Bool.and_eq_true, beq_iff_eq] at hp
              exact absurd hp.2 ((Fj.dst d hdj').2 k hk e))]
        have hdl : d < a.tmps.size := by rw [J.size]; exact (Fj.dst d hdj').1
        have hy : yielded ops a.tmps j = boolOf (vs j) := by
          unfold yielded
          have : (ops[j]?).bind (·.dst) = some d := hd
          rw [this]
          simp only [Option.bind_some]
          have e2 : a.tmps[d]? = some (vs j) := by
            rw [Array.getElem?_eq_getElem hdl]
            have : a.tmps.getD d undef = a.tmps[d] := by simp [Array.getD, hdl]
            rw [← this, hsl]
          rw [e2]
          cases vs j <;> rfl
        show (yielded ops a.tmps j == some b) = (yv j == some b)
        rw [hy, hyv i o j b ho hg _ vs w J.inv (hdep j hdj)]
    have hL : (fun k => (listed.setIfInBounds i true).getD k false) = (fun k => if k = i then true else listed.getD k false) := by
      funext k
      by_cases e : k = i
      · subst e; rw [if_pos rfl]; simp [Array.getD, hs, hin]
      · rw [if_neg e]; exact getD_set_ne false (Ne.symm e)
    have hI : ∀ v w', I (fun k => if k = i then true else listed.getD k false) (fun k => if k = i then v else vs k) w' → Inv5 ops a0 I (fun k => (listed.setIfInBounds i true).getD k false) (fun k => if k = i then v else vs k) (a.put o.dst v) w' := by
      intro v w' hIv
      have hgi : (listed.setIfInBounds i true).getD i false = true := by simp [Array.getD, hs, hin]
      have hgo : ∀ k, k ≠ i → (listed.setIfInBounds i true).getD k false = listed.getD k false := fun k hk => getD_set_ne false (Ne.symm hk)
      refine ⟨by rw [← J.defers]; cases o.dst <;> rfl, by rw [← J.size]; cases o.dst <;> simp [Act.put], fun s => ?_, fun k o' hk hl j hj => ?_, by rw [hL]; exact hIv⟩
      · by_cases hd : o.dst = some s
        · have Fd := F.dst s hd
          have e1 : (a.put o.dst v).tmps.getD s undef = v := by
            rw [hd]; simp [Act.put, Array.getD, J.size, Fd.1]
          rw [e1]
          unfold look
          rw [find_unique (i := i) hin (by simp only [hgi, dstOf, ho, Option.bind_some, hd, beq_self_eq_true, Bool.and_self]) (fun k hk hp => by
            by_cases e : k = i
            · exact e
            · simp only [Bool.and_eq_true, beq_iff_eq] at hp
              exact absurd hp.2 (Fd.2 k hk e))]
          simp
        · have e1 : (a.put o.dst v).tmps.getD s undef = a.tmps.getD s undef := by
            cases hdo : o.dst with
            | none => rfl
            | some d =>
              have hne : d ≠ s := fun e => hd (by rw [hdo, e])
              have := Act.eval_put (a := a) (dst := some d) (v := v) (x := .tmp s) (fun d' hd' => by cases hd'; intro e; cases e; exact hne rfl)
              exact this
          rw [e1, J.slot s]
          unfold look
          rw [find_congr (p := fun k => (listed.setIfInBounds i true).getD k false && dstOf ops k == some s) (q := fun k => listed.getD k false && dstOf ops k == some s) (fun k hk => by
            by_cases e : k = i
            · subst e
              have : (dstOf ops k == some s) = false := by simp only [dstOf, ho, Option.bind_some, beq_eq_false_iff_ne]; exact hd
              rw [this, Bool.and_false, Bool.and_false]
            · rw [hgo k e])]
          cases hf : (List.range ops.size).find? (fun k => listed.getD k false && dstOf ops k == some s) with
          | none => rfl
          | some k =>
            have hp := List.find?_some hf
            simp only [Bool.and_eq_true] at hp
            have : k ≠ i := fun e => by rw [e, hun] at hp; exact absurd hp.1 (by simp)
            simp [this]
      · by_cases e : k = i
        · subst e
          have : o' = o := by rw [ho] at hk; exact (Option.some.inj hk).symm
          subst this
          have hlj := hdep j hj
          by_cases ej : j = k
          · rw [ej]; exact hgi
          · rw [hgo j ej]; exact hlj
        · have h2 := J.closed k o' hk (by rw [← hgo k e]; exact hl) j hj
          by_cases ej : j = i
          · rw [ej]; exact hgi
          · rw [hgo j ej]; exact h2
    have hc' : ((List.range ops.size).filter (fun k => !(listed.setIfInBounds i true).getD k false)).length ≤ fuel := by
      have := count_lt (l := List.range ops.size) (x := i) (p := fun k => !listed.getD k false) (q := fun k => !(listed.setIfInBounds i true).getD k false) (List.mem_range.2 hin) (by simp [hun]) (by simp [Array.getD, hs, hin]) (fun k hk => by
        by_cases e : k = i
        · subst e; simp [hun]
        · rw [getD_set_ne false (Ne.symm e)] at hk; exact hk)
      omega
    have hgo := hop i o ho _ vs w hun (fun k o' hk hl => J.closed k o' hk hl) hdep J.inv
    unfold wpOp
    simp only [ho]
    rw [hw]
    by_cases hwt : wants yv o = true
    · rw [if_pos hwt] at hgo ⊢
      refine .inl (runs_wp hev ?_)
      have mono : ∀ {R R' : Value → World → Prop}, (∀ v w', R v w' → R' v w') → runs P o (rho ops a0 (depOn o) vs) w R → runs P o (rho ops a0 (depOn o) vs) w R' := by
        intro R R' hR h
        unfold runs at *
        split at h <;> first | exact hR _ _ h | exact Calls.mono h (fun e w'' ⟨v, he, hk⟩ => ⟨v, he, hR _ _ hk⟩) | exact h.elim
      exact mono (fun v w' h1 => any_ok5 fuel _ _ _ _ (by simp [hs]) hc' (hI v w' h1)) hgo
    · rw [if_neg hwt] at hgo ⊢
      exact any_ok5 fuel _ _ _ _ (by simp [hs]) hc' (hI undef w hgo)

theorem region_inv {id : Nat} {w : World} (I : (Nat → Bool) → (Nat → Value) → World → Prop) (yv : Nat → Option Bool) (D : List (Nat × Option Tmp)) (hm : P.follows .mixedOrders = true)
    (hok : regionOk ops a0.tmps.size = true) (hD : (List.range ops.size).map (fun i => (i, dstOf ops i)) = D)
    (hyv : ∀ (i : Nat) (o : Oper) (j : Nat) (b : Bool), ops[i]? = some o → o.guard = some (j, b) → ∀ L vs w, I L vs w → L j = true → boolOf (vs j) = yv j)
    (h0 : I (fun _ => false) (fun _ => undef) w.drew)
    (hop : ∀ i o, ops[i]? = some o → ∀ (L : Nat → Bool) (vs : Nat → Value) w, L i = false → (∀ k o', ops[k]? = some o' → L k = true → ∀ j, depOn o' j = true → L j = true) → (∀ j, depOn o j = true → L j = true) → I L vs w →
      if wants yv o = true then runs P o (rho ops a0 (depOn o) vs) w (fun v w' => I (fun k => if k = i then true else L k) (fun k => if k = i then v else vs k) w') else I (fun k => if k = i then true else L k) (fun k => if k = i then undef else vs k) w)
    (hend : ∀ (L : Nat → Bool) (vs : Nat → Value) w, (∀ i, i < ops.size → L i = true) → I L vs w → Q .normal (putAll vs D a0) w) : (Code.region id ops true).wp P Q a0 w :=
  wp_region_any hm (any_ok5 hok hyv hop (fun L vs w a hall hI h1 h2 h3 => by rw [frame_is hok hD h1 h2 h3]; exact hend L vs w hall hI) ops.size (Array.replicate ops.size false) (fun _ => undef) a0 _ (by simp)
    (Nat.le_trans (List.length_filter_le _ _) (by simp)) ⟨rfl, rfl, fun s => by
      unfold look
      have : (List.range ops.size).find? (fun i => (Array.replicate ops.size false).getD i false && dstOf ops i == some s) = none := by
        rw [List.find?_eq_none]
        intro k hk hc
        have hk := List.mem_range.1 hk
        simp [Array.getD, hk] at hc
      rw [this], fun i o ho hl => by
        have hi : i < ops.size := (Array.getElem?_eq_some_iff.1 ho).1
        simp [Array.getD, hi] at hl, by
      have : (fun i => (Array.replicate ops.size false).getD i false) = (fun _ : Nat => false) := by
        funext i
        by_cases hi : i < ops.size <;> simp [Array.getD, hi]
      rw [this]; exact h0⟩)
end

def chainOk (ops : Array Oper) (ch : List Nat) : Bool :=
  (List.range ch.length).all fun t => match ch[t]? with
    | none => false
    | some k => decide (k < ops.size) && (match ch[t + 1]? with | none => true | some k' => match ops[k']? with | some o' => depOn o' k | none => false) && (List.range ch.length).all (fun s => s == t || ch[s]? != some k)
abbrev Vat (Vl : List (World → Value → Prop)) (i : Nat) : World → Value → Prop := Vl.getD i (fun _ _ => True)
def StabS (ch : List Nat) (T : Nat → World → World → Prop) (i : Nat) (p : World → Value → Prop) : Prop :=
  (∀ w w' v, Below w.heap.size w w' → p w v → p w' v) ∧ ∀ k, k ∈ ch → k ≠ i → ∀ w w' v, T k w w' → p w v → p w' v
def StabSAll (ch : List Nat) (T : Nat → World → World → Prop) : Nat → List (World → Value → Prop) → Prop
  | _, [] => True
  | i, p :: l => StabS ch T i p ∧ StabSAll ch T (i + 1) l
theorem StabS.const (ch : List Nat) (T : Nat → World → World → Prop) (i : Nat) (p : Value → Prop) : StabS ch T i (fun _ v => p v) := ⟨fun _ _ _ _ h => h, fun _ _ _ _ _ _ _ h => h⟩
theorem StabSAll.at_ {ch : List Nat} {T : Nat → World → World → Prop} : ∀ (l : List (World → Value → Prop)) (k i : Nat), StabSAll ch T k l → StabS ch T (k + i) (Vat l i)
  | [], k, i, _ => by
    have : Vat [] i = fun _ _ => True := by simp [Vat]
    rw [this]; exact StabS.const _ _ _ _
  | x :: l, k, 0, h => h.1
  | x :: l, k, i + 1, h => by
    have := StabSAll.at_ l (k + 1) i h.2
    rw [show k + 1 + i = k + (i + 1) by omega] at this
    unfold Vat at this ⊢
    rw [List.getD_cons_succ]; exact this
section
variable (P : Program) (ops : Array Oper) (a0 : Act) (yv : Nat → Option Bool) (C : World → Prop) (ch : List Nat) (S : Nat → List Value → World → Prop) (T : Nat → World → World → Prop) (Vl : List (World → Value → Prop))
def HopS (i : Nat) (o : Oper) : Prop :=
  match ch.idxOf? i with
  | some t => ∀ (vs : Nat → Value) w, C w → S t ((ch.take t).map vs) w → (∀ j, depOn o j = true → Vat Vl j w (vs j)) →
      if wants yv o = true then runs P o (rho ops a0 (depOn o) vs) w (fun v w' => C w' ∧ T i w w' ∧ Vat Vl i w' v ∧ S (t + 1) ((ch.take t).map vs ++ [v]) w') else Vat Vl i w undef ∧ S (t + 1) ((ch.take t).map vs ++ [undef]) w
  | none => ∀ (vs : Nat → Value) w t, C w → (∀ (s k : Nat) (o' : Oper), s < t → ch[s]? = some k → ops[k]? = some o' → depOn o' i = false) → (∀ (s k : Nat), ch[s]? = some k → depOn o k = true → s < t) → S t ((ch.take t).map vs) w → (∀ j, depOn o j = true → Vat Vl j w (vs j)) →
      if wants yv o = true then runs P o (rho ops a0 (depOn o) vs) w (fun v w' => Below w.heap.size w w' ∧ Vat Vl i w' v) else Vat Vl i w undef
def HopSAll : Nat → List Oper → Prop
  | _, [] => True
  | i, o :: l => HopS P ops a0 yv C ch S T Vl i o ∧ HopSAll (i + 1) l
end
theorem HopSAll.at_ {P : Program} {ops : Array Oper} {a0 : Act} {yv : Nat → Option Bool} {C : World → Prop} {ch : List Nat} {S : Nat → List Value → World → Prop} {T : Nat → World → World → Prop} {Vl : List (World → Value → Prop)} : ∀ (l : List Oper) (k i : Nat) (o : Oper), HopSAll P ops a0 yv C ch S T Vl k l → l[i]? = some o → HopS P ops a0 yv C ch S T Vl (k + i) o
  | [], k, i, o, _, h => by simp at h
  | x :: l, k, 0, o, h, ho => by
    obtain rfl : x = o := by simpa using ho
    exact h.1
  | x :: l, k, i + 1, o, h, ho => by
    have := HopSAll.at_ l (k + 1) i o h.2 (by simpa using ho)
    rw [show k + 1 + i = k + (i + 1) by omega] at this
    exact this
theorem chain_at {ops : Array Oper} {ch : List Nat} (h : chainOk ops ch = true) {t k : Nat} (hk : ch[t]? = some k) : k < ops.size ∧ (∀ k' o', ch[t + 1]? = some k' → ops[k']? = some o' → depOn o' k = true) ∧ ∀ s, ch[s]? = some k → s = t := by
  have ht : t < ch.length := (List.getElem?_eq_some_iff.1 hk).1
  have := range_all h ht
  rw [hk] at this
  simp only [Bool.and_eq_true, decide_eq_true_eq] at this
  obtain ⟨⟨h1, h2⟩, h3⟩ := this
  refine ⟨h1, fun k' o' hk' ho' => ?_, fun s hs => ?_⟩
  · rw [hk'] at h2
    simp only [ho'] at h2
    exact h2
  · have hsl : s < ch.length := (List.getElem?_eq_some_iff.1 hs).1
    have := range_all h3 hsl
    simp only [Bool.or_eq_true, beq_iff_eq, bne_iff_ne, ne_eq] at this
    rcases this with e | e
    · exact e
    · exact absurd hs e
theorem regionS {P : Program} {ops : Array Oper} {Q : Exit → Act → World → Prop} {a0 : Act} {id : Nat} {W : World} (Vl : List (World → Value → Prop)) (ch : List Nat) (S : Nat → List Value → World → Prop) (T : Nat → World → World → Prop) (C : World → Prop) (yv : Nat → Option Bool) (D : List (Nat × Option Tmp)) (G : List Nat)
    (hm : P.follows .mixedOrders = true) (hok : regionOk ops a0.tmps.size = true) (hD : (List.range ops.size).map (fun i => (i, dstOf ops i)) = D) (hG : (ops.all fun o => match o.guard with | none => true | some (j, _) => G.contains j) = true) (hch : chainOk ops ch = true)
    (h0 : C W.drew) (hS0 : S 0 [] W.drew) (hCb : ∀ w w', Below w.heap.size w w' → C w → C w') (hSb : ∀ t rs w w', Below w.heap.size w w' → S t rs w → S t rs w')
    (hyv : ∀ j ∈ G, ∀ w v, Vat Vl j w v → boolOf v = yv j)
    (hst : StabSAll ch T 0 Vl) (hop : HopSAll P ops a0 yv C ch S T Vl 0 ops.toList)
    (hend : ∀ (vs : Nat → Value) w, C w → S ch.length (ch.map vs) w → (∀ i, i < ops.size → Vat Vl i w (vs i)) → Q .normal (putAll vs D a0) w) : (Code.region id ops true).wp P Q a0 W := by
  have hs : ∀ i, StabS ch T i (Vat Vl i) := fun i => by have := StabSAll.at_ Vl 0 i hst; rwa [Nat.zero_add] at this
  let I : (Nat → Bool) → (Nat → Value) → World → Prop := fun L vs w => C w ∧ ∃ t, t ≤ ch.length ∧ (∀ (s k : Nat), ch[s]? = some k → L k = decide (s < t)) ∧ S t ((ch.take t).map vs) w ∧ ∀ i, L i = true → Vat Vl i w (vs i)
  refine region_inv I yv D hm hok hD ?_ ?_ ?_ ?_
  · intro i o j b ho hgd L vs w hI hL
    obtain ⟨_, t, _, _, _, hV⟩ := hI
    refine hyv j ?_ w _ (hV j hL)
    rw [Array.all_eq_true'] at hG
    have := hG o (Array.mem_of_getElem? ho)
    rw [hgd] at this
    exact List.contains_iff_mem.1 this
  · exact ⟨h0, 0, Nat.zero_le _, fun s k _ => by simp, hS0, fun i h => by cases h⟩
  · intro i o ho L vs w hLi hcl hdep hI
    obtain ⟨hC, t, ht, hL, hSt, hV⟩ := hI
    have H := HopSAll.at_ ops.toList 0 i o hop (by rw [Array.getElem?_toList]; exact ho)
    rw [Nat.zero_add] at H
    have hVd : ∀ j, depOn o j = true → Vat Vl j w (vs j) := fun j hj => hV j (hdep j hj)
    unfold HopS at H
    have hidx : ∀ t', ch.idxOf? i = some t' → ch[t']? = some i := by
      intro t' h'
      have := List.idxOf?_eq_some_iff.1 h'
      obtain ⟨h1, h2, _⟩ := this
      rw [List.getElem?_eq_getElem h1]; exact congrArg some (by simpa using h2)
    have hno : ch.idxOf? i = none → ∀ (s k : Nat), ch[s]? = some k → k ≠ i := by
      intro h' s k hk e
      subst e
      have := List.idxOf?_eq_none_iff.1 h'
      exact this (List.mem_of_getElem? hk)
    have hmap : ∀ (v : Value) (t' : Nat), (∀ (s k : Nat), s < t' → ch[s]? = some k → k ≠ i) → (ch.take t').map (fun k => if k = i then v else vs k) = (ch.take t').map vs := by
      intro v t' hne
      refine List.map_congr_left fun k hk => ?_
      obtain ⟨s, hs1⟩ := List.getElem?_of_mem hk
      rw [List.getElem?_take] at hs1
      split at hs1
      · rename_i hlt
        rw [if_neg (hne s k hlt hs1)]
      · cases hs1
    cases hix : ch.idxOf? i with
    | some t' =>
      rw [hix] at H
      have hci := hidx t' hix
      have F := chain_at hch hci
      have htt : t' = t := by
        have h1 := hL t' i hci
        rw [hLi] at h1
        have h2 : ¬ t' < t := by intro h; rw [decide_eq_true h] at h1; cases h1
        rcases Nat.lt_or_ge t t' with h | h
        · exfalso
          -- the one ahead of it in the chain has been carried out
          obtain ⟨p, hp⟩ : ∃ p, t' = p + 1 := ⟨t' - 1, by omega⟩
          subst hp
          have hpl : p < ch.length := by have := (List.getElem?_eq_some_iff.1 hci).1; omega
          have hpk := List.getElem?_eq_getElem hpl
          have hd := (chain_at hch hpk).2.1 i o hci ho
          have hl := hdep _ hd
          rw [hL p _ hpk] at hl
          have := of_decide_eq_true hl
          omega
        · omega
      subst htt
      have H1 := H vs w hC hSt hVd
      have hlast : (ch.take (t' + 1)) = ch.take t' ++ [i] := by
        rw [List.take_add_one, hci]; rfl
      have hne : ∀ (s k : Nat), s < t' → ch[s]? = some k → k ≠ i := by
        intro s k hs1 hk e
        subst e
        have := F.2.2 s hk
        omega
      have hLn : ∀ (s k : Nat), ch[s]? = some k → (if k = i then true else L k) = decide (s < t' + 1) := by
        intro s k hk
        by_cases e : k = i
        · subst e
          rw [if_pos rfl, F.2.2 s hk]; simp
        · rw [if_neg e, hL s k hk]
          have hst' : s ≠ t' := fun e2 => by subst e2; rw [hci] at hk; exact e (Option.some.inj hk).symm
          by_cases h : s < t'
          · rw [decide_eq_true h, decide_eq_true (by omega)]
          · rw [decide_eq_false h, decide_eq_false (by omega)]
      have hmapS : ∀ v : Value, (ch.take (t' + 1)).map (fun k => if k = i then v else vs k) = (ch.take t').map vs ++ [v] := by
        intro v
        rw [hlast, List.map_append, hmap v t' hne]
        simp
      have htl : t' + 1 ≤ ch.length := (List.getElem?_eq_some_iff.1 hci).1
      by_cases hw : wants yv o = true
      · rw [if_pos hw] at H1 ⊢
        unfold runs at H1 ⊢
        have fin : ∀ v w', (C w' ∧ T i w w' ∧ Vat Vl i w' v ∧ S (t' + 1) ((ch.take t').map vs ++ [v]) w') → I (fun k => if k = i then true else L k) (fun k => if k = i then v else vs k) w' := by
          rintro v w' ⟨k1, k2, k3, k4⟩
          refine ⟨k1, t' + 1, htl, hLn, by rw [hmapS]; exact k4, fun j hj => ?_⟩
          by_cases e : j = i
          · subst e; simpa using k3
          · simp only [e, if_false] at hj ⊢
            exact (hs j).2 i (List.mem_of_getElem? hci) (Ne.symm e) w w' _ k2 (hV j hj)
        split at H1 <;> first | exact fin _ _ H1 | exact Calls.mono H1 (fun e w'' ⟨v, he, hk⟩ => ⟨v, he, fin _ _ hk⟩) | exact H1.elim
      · rw [if_neg hw] at H1 ⊢
        refine ⟨hC, t' + 1, htl, hLn, by rw [hmapS]; exact H1.2, fun j hj => ?_⟩
        by_cases e : j = i
        · subst e; simpa using H1.1
        · simp only [e, if_false] at hj ⊢
          exact hV j hj
    | none =>
      rw [hix] at H
      have hn := hno hix
      have H1 := H vs w t hC (fun s k o' hs1 hk ho' => by
        cases hb : depOn o' i with
        | false => rfl
        | true =>
          have hlk : L k = true := by rw [hL s k hk]; exact decide_eq_true hs1
          have := hcl k o' ho' hlk i hb
          rw [hLi] at this; cases this) (fun s k hk hd => by
        have := hdep k hd
        rw [hL s k hk] at this
        exact of_decide_eq_true this) hSt hVd
      have hLn : ∀ (s k : Nat), ch[s]? = some k → (if k = i then true else L k) = decide (s < t) := fun s k hk => by rw [if_neg (hn s k hk)]; exact hL s k hk
      by_cases hw : wants yv o = true
      · rw [if_pos hw] at H1 ⊢
        unfold runs at H1 ⊢
        have fin : ∀ v w', (Below w.heap.size w w' ∧ Vat Vl i w' v) → I (fun k => if k = i then true else L k) (fun k => if k = i then v else vs k) w' := by
          rintro v w' ⟨k1, k2⟩
          refine ⟨hCb w w' k1 hC, t, ht, hLn, by rw [hmap v t (fun s k _ hk => hn s k hk)]; exact hSb _ _ _ _ k1 hSt, fun j hj => ?_⟩
          by_cases e : j = i
          · subst e; simpa using k2
          · simp only [e, if_false] at hj ⊢
            exact (hs j).1 w w' _ k1 (hV j hj)
        split at H1 <;> first | exact fin _ _ H1 | exact Calls.mono H1 (fun e w'' ⟨v, he, hk⟩ => ⟨v, he, fin _ _ hk⟩) | exact H1.elim
      · rw [if_neg hw] at H1 ⊢
        refine ⟨hC, t, ht, hLn, by rw [hmap undef t (fun s k _ hk => hn s k hk)]; exact hSt, fun j hj => ?_⟩
        by_cases e : j = i
        · subst e; simpa using H1
        · simp only [e, if_false] at hj ⊢
          exact hV j hj
  · intro L vs w hall hI
    obtain ⟨hC, t, ht, hL, hSt, hV⟩ := hI
    have htl : t = ch.length := by
      rcases Nat.lt_or_ge t ch.length with h | h
      · exfalso
        have hk := List.getElem?_eq_getElem h
        have h1 := hL t _ hk
        rw [hall _ (chain_at hch hk).1] at h1
        have := of_decide_eq_true h1.symm
        omega
      · omega
    subst htl
    rw [List.take_length] at hSt
    exact hend vs w hC hSt (fun i hi => hV i (hall i hi))
end Go.Proofs.Yticpjidcgaaldaa

namespace Go.Proofs.Yticpjidcgaaldaa
open Go.RowKit Go.Proofs.YticpjidcgaaldaaW.PrintWords Go.Proofs.YticpjidcgaaldaaW.PrintLast Go.Proofs.YticpjidcgaaldaaW.PrintMore
set_option linter.unusedVariables false
set_option linter.unusedSimpArgs false

def Cur (cur : Array Value) (k : Nat) (f : Nat → S59) : Prop := ∀ j, j < k → cur[2 * j]? = some (.int .i32 (f j).f0) ∧ cur[2 * j + 1]? = some (.int .u32 (f j).f1)
end Go.Proofs.Yticpjidcgaaldaa

namespace Go.Proofs.Yticpjidcgaaldaa
open Go.RowKit Go.Proofs.YticpjidcgaaldaaW.PrintWords Go.Proofs.YticpjidcgaaldaaW.PrintLast Go.Proofs.YticpjidcgaaldaaW.PrintMore
set_option linter.unusedVariables false
set_option linter.unusedSimpArgs false

theorem PPut.blk {w w' : World} {base g gc : Nat} {v v' : Value} {p' : List Int} {o : Obj} (h : PPut w w' base g v p' v') (hb : w.heap[gc]? = some o) (hne : gc ≠ g) (hv : v.ownBlock ≠ some gc) : w'.heap[gc]? = some o ∧ v'.ownBlock ≠ some gc := by
  refine ⟨h.2.1.blk hb hne (fun e => hv e.symm), fun e => ?_⟩
  rcases h.2.2.1 with h1 | h1 | ⟨b, h1, h2⟩
  · rw [h1] at e; cases e
  · exact hv (h1 ▸ e)
  · rw [h1] at e
    have := blk_lt hb
    injection e; omega

set_option maxRecDepth 100000 in
set_option maxHeartbeats 8000000 in
theorem dbytes_no (tk hs : Int) (A A2 : Option Addr) (n c m c2 : Nat) (P : List Int) (C : List S59) (w : World) (hp : (Kd.int .u8).C w A n P) (hc : n ≤ c) (hC : k59.C w A2 m C) (hc2 : m ≤ c2) (hP : Bytes P) (hl : n < 4611686018427387904) (hr : rightB P m = false) :
    Calls Try.prog 41 #[.agg #[.int .u32 tk, .int .u32 hs, .slice A n c, .slice A2 m c2]] w fun e w' => e = .returned (.slice none 0 0) ∧ Below w.heap.size w w' := by
  obtain rfl := hp.1
  obtain rfl := hC.1
  have H0 := Aside0.mk ((Hp.start w).alloc (.cells #[.int .u32 tk, .int .u32 hs, .slice A P.length c, .slice A2 C.length c2] 26))
  have hb0 := below_alloc (Below.refl w.heap.size w) (.cells #[.int .u32 tk, .int .u32 hs, .slice A P.length c, .slice A2 C.length c2] 26)
  have KEY := Aside0.mk (right_any tk hs A A2 c c2 P C _ (Kd.C_below hp hb0) hc (Kd.C_below hC hb0) hc2 hP hl)
  rw [hr] at KEY
  generalize P.length = n at *
  generalize C.length = m at *
  clear hp hC hb0 hP hl hr hc hc2
  go_enter Try.func41, Try.ntmps41
  go_wp2_with (first | (refine wpList_load_row_g 26 (.tmp 1) rfl (w.heap.size) rfl rfl 26 _ (0, 0) _ (H0.out.get (i := 0) rfl) Try.underlying26 rfl (delta_info _ _ _ _) ?_))
  refine KEY.out.mono ?_
  rintro e w1 ⟨rfl, hb1⟩
  have H1 := Aside0.mk (H0.out.call hb1)
  clear hb1 KEY H0
  go_wp2_with fail
  go_ret
  exact ⟨rfl, H1.out.bel⟩

set_option maxRecDepth 100000 in
set_option maxHeartbeats 8000000 in
theorem dbytes_yes (tk hs : Nat) (A A2 : Option Addr) (n c m c2 : Nat) (P : List Int) (C : List S59) (w : World) (hp : (Kd.int .u8).C w A n P) (hc : n ≤ c) (hC : k59.C w A2 m C) (hc2 : m ≤ c2) (hr : rightB P m = true) (htk : tk < 4294967296) (hhs : hs < 4294967296) (hU : ∀ x ∈ C, U32 x.f1) :
    Calls Try.prog 41 #[.agg #[.int .u32 tk, .int .u32 hs, .slice A n c, .slice A2 m c2]] w fun e w' => ∃ v, e = .returned v ∧ (Kd.int .u8).R 5 w' w.heap.size (fun _ => True) v (dBytes tk hs P C) ∧ Below w.heap.size w w' := by
  obtain ⟨hr1, hr2⟩ : risB (-1) P = true ∧ P.length = m := by
    unfold rightB at hr
    simp only [Bool.and_eq_true, beq_iff_eq] at hr
    exact hr
  obtain ⟨q1, q2, q3⟩ := risB_le (by omega) (by omega) hr1
  obtain rfl := hp.1
  have hCl := hC.1
  have hn48 : P.length ≤ 48 := by omega
  have HPC : Aside0 (P.length = m ∧ C.length = m ∧ m ≤ 48) := ⟨hr2, hCl, by omega⟩
  have hb0 := below_alloc (Below.refl w.heap.size w) (.cells #[.int .u32 tk, .int .u32 hs, .slice A P.length c, .slice A2 m c2] 26)
  have KEY := Aside0.mk (by have := right_any tk hs A A2 c c2 P C _ (Kd.C_below hp hb0) hc (by rw [hCl]; exact Kd.C_below hC hb0) (by rw [hCl]; exact hc2) q2 (by omega); rw [hCl, hr] at this; exact this)
  have HTK := Aside0.mk htk
  have HHS := Aside0.mk hhs
  have HU := Aside0.mk hU
  have HB := Aside0.mk q2
  have HF : Aside0 (∀ z, Below w.heap.size w z → (Kd.int .u8).C z A P.length P ∧ k59.C z A2 m C) := ⟨fun z hb => ⟨Kd.C_below hp hb, Kd.C_below hC hb⟩⟩
  have H0 := Aside0.mk ((Hp.start w).alloc (.cells #[.int .u32 tk, .int .u32 hs, .slice A P.length c, .slice A2 m c2] 26))
  generalize hn : P.length = n at *
  have HNP := Aside0.mk hn
  clear hp hC hb0 hc hc2 hr hr1 hr2 q1 q2 q3 htk hhs hU hCl hn
  go_enter Try.func41, Try.ntmps41
  go_wp2_with (first | (refine wpList_load_row_g 26 (.tmp 1) rfl (w.heap.size) rfl rfl 26 _ (0, 0) _ (H0.out.get (i := 0) rfl) Try.underlying26 rfl (delta_info _ _ _ _) ?_))
  refine KEY.out.mono ?_
  rintro e V0 ⟨rfl, hb1⟩
  have H1 := Aside0.mk (H0.out.call hb1)
  clear hb1 KEY H0
  go_wp2_with fail
  obtain ⟨gd, hgd⟩ : ∃ gd, w.heap.size = gd := ⟨_, rfl⟩
  rw [hgd] at H1
  rw [hgd]
  obtain ⟨gp, hgp⟩ : ∃ gp, V0.heap.size = gp := ⟨_, rfl⟩
  rw [hgp]
  have HGD := Aside0.mk hgd
  have GD : Aside0 (gd < gp) := ⟨by rw [← hgp]; exact H1.out.lt (i := 0) rfl⟩
  have hP0 : Pn (V0.alloc (.cells #[.slice none 0 0] 91)) gp gp [] (.slice none 0 0) := ⟨by rw [← hgp]; exact blk_new _ _, Kd.R_nil _ _ _ _ _⟩
  have HP0 := Aside0.mk hP0
  have HB0 : Aside0 (Below gp V0 (V0.alloc (.cells #[.slice none 0 0] 91))) := ⟨by rw [← hgp]; exact below_alloc (Below.refl _ _) _⟩
  have HV0 : Aside0 (V0.heap.size = gp) := ⟨hgp⟩
  have HG0 := Aside0.mk (H1.out.get (i := 0) rfl)
  have HF0 : Aside0 (∀ z, Below gp V0 z → (Kd.int .u8).C z A n P ∧ k59.C z A2 m C) := ⟨fun z hz => HF.out z (by rw [HGD.out]; exact H1.out.bel.trans (hz.mono (Nat.le_of_lt GD.out)))⟩
  have IX : Aside0 (IntKind.u8.wrap (n : Int) = ((n % 256 : Nat) : Int)) := ⟨by rw [IntWalk.u8_in _ (by have := HPC.out; omega)]; have := HPC.out; omega⟩
  clear hP0 hgd hgp HF
  generalize hV : V0.alloc (.cells #[.slice none 0 0] 91) = V1 at *
  clear hV
  refine regionS (W := V1)
    [fun _ v => v = .pointer (some ⟨gd, 0, none⟩),
     fun _ v => v = .int .u32 tk,
     fun _ v => v = .pointer (some ⟨gp, 0, none⟩),
     fun _ v => v = .pointer (some ⟨gd, 1, none⟩),
     fun _ v => v = .int .u32 hs,
     fun _ v => v = .pointer (some ⟨gp, 0, none⟩),
     fun _ v => v = .pointer (some ⟨gd, 2, none⟩),
     fun _ v => v = .slice A n c,
     fun _ v => v = .int .i64 n,
     fun _ v => v = .int .u8 ((n % 256 : Nat) : Int),
     fun _ v => v = .pointer (some ⟨gp, 0, none⟩)]
    [2, 5, 10]
    (fun t => match t with | 0 => fun (rs : List Value) (w : World) => ∃ v, Pn w gp gp [] v | 1 => fun (rs : List Value) (w : World) => ∃ v, Pn w gp gp (lowN tk 4) v | 2 => fun (rs : List Value) (w : World) => ∃ v, Pn w gp gp (lowN tk 4 ++ lowN hs 4) v | 3 => fun (rs : List Value) (w : World) => ∃ v, Pn w gp gp (dHead tk hs n) v | _ => fun _ _ => False)
    (fun _ _ _ => True) (fun w => Below gp V0 w ∧ gp ≤ w.heap.size)
    (fun j =>  none)
    [(0, some 9), (1, some 10), (2, some 11), (3, some 12), (4, some 13), (5, some 14), (6, some 15), (7, some 16), (8, some 17), (9, some 18), (10, some 19)]
    []
    (by kernel_rfl) (by kernel_rfl) (by kernel_rfl) (by kernel_rfl) (by kernel_rfl) ?z4_1c ?z4_1i ?z4_1b ?z4_1d ?z4_1g ⟨?z4_1t0, ?z4_1t1, ?z4_1t2, ?z4_1t3, ?z4_1t4, ?z4_1t5, ?z4_1t6, ?z4_1t7, ?z4_1t8, ?z4_1t9, ?z4_1t10, trivial⟩ ⟨?z4_1o0, ?z4_1o1, ?z4_1o2, ?z4_1o3, ?z4_1o4, ?z4_1o5, ?z4_1o6, ?z4_1o7, ?z4_1o8, ?z4_1o9, ?z4_1o10, trivial⟩ ?z4_1e
  case z4_1c => exact ⟨HB0.out.trans (below_drew (Below.refl _ _)), by have := blk_lt HP0.out.1; exact Nat.le_of_lt this⟩
  case z4_1i => exact ⟨_, HP0.out⟩
  case z4_1b => intro w w' hb h; exact ⟨h.1.trans (hb.mono h.2), Nat.le_trans h.2 hb.size⟩
  case z4_1d =>
    intro t rs w w' hb h
    match t, h with
    | 0, h => (replace h : ∃ v, Pn w gp gp [] v := h); show ∃ v, Pn w' gp gp [] v; (obtain ⟨v, h⟩ := h; exact ⟨v, h.below hb⟩)
    | 1, h => (replace h : ∃ v, Pn w gp gp (lowN tk 4) v := h); show ∃ v, Pn w' gp gp (lowN tk 4) v; (obtain ⟨v, h⟩ := h; exact ⟨v, h.below hb⟩)
    | 2, h => (replace h : ∃ v, Pn w gp gp (lowN tk 4 ++ lowN hs 4) v := h); show ∃ v, Pn w' gp gp (lowN tk 4 ++ lowN hs 4) v; (obtain ⟨v, h⟩ := h; exact ⟨v, h.below hb⟩)
    | 3, h => (replace h : ∃ v, Pn w gp gp (dHead tk hs n) v := h); show ∃ v, Pn w' gp gp (dHead tk hs n) v; (obtain ⟨v, h⟩ := h; exact ⟨v, h.below hb⟩)
    | _ + 4, h => exact h.elim
  case z4_1g =>
    intro j hj; cases hj
  case z4_1t0 => exact StabS.const _ _ _ _
  case z4_1t1 => exact StabS.const _ _ _ _
  case z4_1t2 => exact StabS.const _ _ _ _
  case z4_1t3 => exact StabS.const _ _ _ _
  case z4_1t4 => exact StabS.const _ _ _ _
  case z4_1t5 => exact StabS.const _ _ _ _
  case z4_1t6 => exact StabS.const _ _ _ _
  case z4_1t7 => exact StabS.const _ _ _ _
  case z4_1t8 => exact StabS.const _ _ _ _
  case z4_1t9 => exact StabS.const _ _ _ _
  case z4_1t10 => exact StabS.const _ _ _ _
  case z4_1o0 =>
    intro vs w t hC ht1 ht2 hS hV
    rw [if_pos (by kernel_rfl)]
    generalize hρ : rho _ _ _ vs = ρ
    have e1 : ρ (.tmp 1) = .pointer (some ⟨gd, 0, none⟩) := by rw [← hρ]; kernel_rfl
    clear hρ hV
    refine runs_val (v := .pointer (some ⟨gd, 0, none⟩)) (w' := w) ?_ ⟨Below.refl _ _, rfl⟩
    clear ht1 ht2 hS hC
    go_simp <;> (first | exact IntWalk.u64_in _ (by omega) | exact IntWalk.u32_in _ (by omega) | exact IntWalk.u16_in _ (by omega) | exact IntWalk.u8_in _ (by omega) | exact IntWalk.i64_in _ (by omega) | skip)
  case z4_1o1 =>
    intro vs w t hC ht1 ht2 hS hV
    rw [if_pos (by kernel_rfl)]
    generalize hρ : rho _ _ _ vs = ρ
    have d9 : (vs 0) = .pointer (some ⟨gd, 0, none⟩) := hV 0 (by kernel_rfl)
    have e9 : ρ (.tmp 9) = vs 0 := by rw [← hρ]; kernel_rfl
    rw [d9] at e9; clear d9
    clear hρ hV
    have c0 := blk_cell ((hC.1.block gd GD.out).trans HG0.out) 0
    refine runs_val (v := .int .u32 tk) (w' := w) ?_ ⟨Below.refl _ _, rfl⟩
    clear ht1 ht2 hS hC
    go_simp
  case z4_1o2 =>
    intro vs w hC hS hV
    replace hS : ∃ v, Pn w gp gp [] v := hS
    rw [if_pos (by kernel_rfl)]
    generalize hρ : rho _ _ _ vs = ρ
    have e3 : ρ (.tmp 3) = .pointer (some ⟨gp, 0, none⟩) := by rw [← hρ]; kernel_rfl
    have d10 : (vs 1) = .int .u32 tk := hV 1 (by kernel_rfl)
    have e10 : ρ (.tmp 10) = vs 1 := by rw [← hρ]; kernel_rfl
    rw [d10] at e10; clear d10
    have ef39 : ρ (.func 39) = .func (.func 39) #[] #[] := by rw [← hρ]; rfl
    clear hρ hV
    obtain ⟨v, hp⟩ := hS
    refine runs_call (f := 39) (args := #[.pointer (some ⟨gp, 0, none⟩), .int .u32 tk]) (w' := w) ?_ ?_
    · go_simp
    · refine (pword_any gp gp [] v tk HTK.out w hp (Nat.le_refl _) (by simp)).mono ?_
      rintro e w5 ⟨v', rfl, h⟩
      exact ⟨_, rfl, ⟨hC.1.trans h.2.2.2, Nat.le_trans hC.2 h.2.1.1⟩, trivial, rfl, ⟨v', h.1⟩⟩
  case z4_1o3 =>
    intro vs w t hC ht1 ht2 hS hV
    rw [if_pos (by kernel_rfl)]
    generalize hρ : rho _ _ _ vs = ρ
    have e1 : ρ (.tmp 1) = .pointer (some ⟨gd, 0, none⟩) := by rw [← hρ]; kernel_rfl
    clear hρ hV
    refine runs_val (v := .pointer (some ⟨gd, 1, none⟩)) (w' := w) ?_ ⟨Below.refl _ _, rfl⟩
    clear ht1 ht2 hS hC
    go_simp <;> (first | exact IntWalk.u64_in _ (by omega) | exact IntWalk.u32_in _ (by omega) | exact IntWalk.u16_in _ (by omega) | exact IntWalk.u8_in _ (by omega) | exact IntWalk.i64_in _ (by omega) | skip)
  case z4_1o4 =>
    intro vs w t hC ht1 ht2 hS hV
    rw [if_pos (by kernel_rfl)]
    generalize hρ : rho _ _ _ vs = ρ
    have d12 : (vs 3) = .pointer (some ⟨gd, 1, none⟩) := hV 3 (by kernel_rfl)
    have e12 : ρ (.tmp 12) = vs 3 := by rw [← hρ]; kernel_rfl
    rw [d12] at e12; clear d12
    clear hρ hV
    have c0 := blk_cell ((hC.1.block gd GD.out).trans HG0.out) 1
    refine runs_val (v := .int .u32 hs) (w' := w) ?_ ⟨Below.refl _ _, rfl⟩
    clear ht1 ht2 hS hC
    go_simp
  case z4_1o5 =>
    intro vs w hC hS hV
    replace hS : ∃ v, Pn w gp gp (lowN tk 4) v := hS
    rw [if_pos (by kernel_rfl)]
    generalize hρ : rho _ _ _ vs = ρ
    have d11 : (vs 2) = .pointer (some ⟨gp, 0, none⟩) := hV 2 (by kernel_rfl)
    have e11 : ρ (.tmp 11) = vs 2 := by rw [← hρ]; kernel_rfl
    rw [d11] at e11; clear d11
    have d13 : (vs 4) = .int .u32 hs := hV 4 (by kernel_rfl)
    have e13 : ρ (.tmp 13) = vs 4 := by rw [← hρ]; kernel_rfl
    rw [d13] at e13; clear d13
    have ef39 : ρ (.func 39) = .func (.func 39) #[] #[] := by rw [← hρ]; rfl
    clear hρ hV
    obtain ⟨v, hp⟩ := hS
    refine runs_call (f := 39) (args := #[.pointer (some ⟨gp, 0, none⟩), .int .u32 hs]) (w' := w) ?_ ?_
    · go_simp
    · refine (pword_any gp gp (lowN tk 4) v hs HHS.out w hp (Nat.le_refl _) (by rw [lowN_length]; omega)).mono ?_
      rintro e w5 ⟨v', rfl, h⟩
      exact ⟨_, rfl, ⟨hC.1.trans h.2.2.2, Nat.le_trans hC.2 h.2.1.1⟩, trivial, rfl, ⟨v', h.1⟩⟩
  case z4_1o6 =>
    intro vs w t hC ht1 ht2 hS hV
    rw [if_pos (by kernel_rfl)]
    generalize hρ : rho _ _ _ vs = ρ
    have e1 : ρ (.tmp 1) = .pointer (some ⟨gd, 0, none⟩) := by rw [← hρ]; kernel_rfl
    clear hρ hV
    refine runs_val (v := .pointer (some ⟨gd, 2, none⟩)) (w' := w) ?_ ⟨Below.refl _ _, rfl⟩
    clear ht1 ht2 hS hC
    go_simp <;> (first | exact IntWalk.u64_in _ (by omega) | exact IntWalk.u32_in _ (by omega) | exact IntWalk.u16_in _ (by omega) | exact IntWalk.u8_in _ (by omega) | exact IntWalk.i64_in _ (by omega) | skip)
  case z4_1o7 =>
    intro vs w t hC ht1 ht2 hS hV
    rw [if_pos (by kernel_rfl)]
    generalize hρ : rho _ _ _ vs = ρ
    have d15 : (vs 6) = .pointer (some ⟨gd, 2, none⟩) := hV 6 (by kernel_rfl)
    have e15 : ρ (.tmp 15) = vs 6 := by rw [← hρ]; kernel_rfl
    rw [d15] at e15; clear d15
    clear hρ hV
    have c0 := blk_cell ((hC.1.block gd GD.out).trans HG0.out) 2
    refine runs_val (v := .slice A n c) (w' := w) ?_ ⟨Below.refl _ _, rfl⟩
    clear ht1 ht2 hS hC
    go_simp
  case z4_1o8 =>
    intro vs w t hC ht1 ht2 hS hV
    rw [if_pos (by kernel_rfl)]
    generalize hρ : rho _ _ _ vs = ρ
    have d16 : (vs 7) = .slice A n c := hV 7 (by kernel_rfl)
    have e16 : ρ (.tmp 16) = vs 7 := by rw [← hρ]; kernel_rfl
    rw [d16] at e16; clear d16
    clear hρ hV
    refine runs_val (v := .int .i64 n) (w' := w) ?_ ⟨Below.refl _ _, rfl⟩
    clear ht1 ht2 hS hC
    go_simp <;> (first | exact IntWalk.u64_in _ (by omega) | exact IntWalk.u32_in _ (by omega) | exact IntWalk.u16_in _ (by omega) | exact IntWalk.u8_in _ (by omega) | exact IntWalk.i64_in _ (by omega) | skip)
  case z4_1o9 =>
    intro vs w t hC ht1 ht2 hS hV
    rw [if_pos (by kernel_rfl)]
    generalize hρ : rho _ _ _ vs = ρ
    have d17 : (vs 8) = .int .i64 n := hV 8 (by kernel_rfl)
    have e17 : ρ (.tmp 17) = vs 8 := by rw [← hρ]; kernel_rfl
    rw [d17] at e17; clear d17
    clear hρ hV
    have ix := IX.out
    refine runs_val (v := .int .u8 ((n % 256 : Nat) : Int)) (w' := w) ?_ ⟨Below.refl _ _, rfl⟩
    clear ht1 ht2 hS hC
    rw [← ix]
    clear ix
    go_simp
  case z4_1o10 =>
    intro vs w hC hS hV
    replace hS : ∃ v, Pn w gp gp (lowN tk 4 ++ lowN hs 4) v := hS
    rw [if_pos (by kernel_rfl)]
    generalize hρ : rho _ _ _ vs = ρ
    have d14 : (vs 5) = .pointer (some ⟨gp, 0, none⟩) := hV 5 (by kernel_rfl)
    have e14 : ρ (.tmp 14) = vs 5 := by rw [← hρ]; kernel_rfl
    rw [d14] at e14; clear d14
    have d18 : (vs 9) = .int .u8 ((n % 256 : Nat) : Int) := hV 9 (by kernel_rfl)
    have e18 : ρ (.tmp 18) = vs 9 := by rw [← hρ]; kernel_rfl
    rw [d18] at e18; clear d18
    have ef38 : ρ (.func 38) = .func (.func 38) #[] #[] := by rw [← hρ]; rfl
    clear hρ hV
    obtain ⟨v, hp⟩ := hS
    refine runs_call (f := 38) (args := #[.pointer (some ⟨gp, 0, none⟩), .int .u8 ((n % 256 : Nat) : Int)]) (w' := w) ?_ ?_
    · go_simp
    · refine (pbyte_any gp gp (lowN tk 4 ++ lowN hs 4) v _ w hp (Nat.le_refl _) (by rw [List.length_append, lowN_length, lowN_length]; omega)).mono ?_
      rintro e w5 ⟨v', rfl, h⟩
      exact ⟨_, rfl, ⟨hC.1.trans h.2.2.2, Nat.le_trans hC.2 h.2.1.1⟩, trivial, rfl, ⟨v', h.1⟩⟩
  case z4_1e =>
    intro vs V2 hC hS hV
    replace hS : (fun (w : World) => ∃ v, Pn w gp gp (dHead tk hs n) v) V2 := hS
    have d9 : (vs 0) = .pointer (some ⟨gd, 0, none⟩) := hV 0 (Nat.le_of_ble_eq_true rfl)
    have d10 : (vs 1) = .int .u32 tk := hV 1 (Nat.le_of_ble_eq_true rfl)
    have d11 : (vs 2) = .pointer (some ⟨gp, 0, none⟩) := hV 2 (Nat.le_of_ble_eq_true rfl)
    have d12 : (vs 3) = .pointer (some ⟨gd, 1, none⟩) := hV 3 (Nat.le_of_ble_eq_true rfl)
    have d13 : (vs 4) = .int .u32 hs := hV 4 (Nat.le_of_ble_eq_true rfl)
    have d14 : (vs 5) = .pointer (some ⟨gp, 0, none⟩) := hV 5 (Nat.le_of_ble_eq_true rfl)
    have d15 : (vs 6) = .pointer (some ⟨gd, 2, none⟩) := hV 6 (Nat.le_of_ble_eq_true rfl)
    have d16 : (vs 7) = .slice A n c := hV 7 (Nat.le_of_ble_eq_true rfl)
    have d17 : (vs 8) = .int .i64 n := hV 8 (Nat.le_of_ble_eq_true rfl)
    have d18 : (vs 9) = .int .u8 ((n % 256 : Nat) : Int) := hV 9 (Nat.le_of_ble_eq_true rfl)
    have d19 : (vs 10) = .pointer (some ⟨gp, 0, none⟩) := hV 10 (Nat.le_of_ble_eq_true rfl)
    clear hV
    simp only [putAll]
    rw [d9, d10, d11, d12, d13, d14, d15, d16, d17, d18, d19]
    clear d9 d10 d11 d12 d13 d14 d15 d16 d17 d18 d19
    clear vs
    simp only [Act.put, List.setIfInBounds_toArray, List.set_cons_zero, List.set_cons_succ]
    have HP2 := Aside0.mk hS
    have HB2 := Aside0.mk hC.1
    have GC2 := Aside0.mk hC.2
    clear hS hC HP0 HB0
    have c3 := blk_cell ((HB2.out.block gd GD.out).trans HG0.out) 3
    go_wp2_with fail
    clear c3
    go_loopw [23] (fun v23 wr => ∃ i : Nat, i ≤ m ∧ v23 = .int .i64 i ∧ Aside0 ((∃ v, Pn wr gp gp (dHead tk hs n ++ dRows (P.take i) (C.take i)) v) ∧ Below gp V0 wr)) (fun v23 _ => m - (intOf v23).toNat)
    case atStart => exact ⟨0, by omega, rfl, ⟨by simpa [dRows] using HP2.out, HB2.out⟩⟩
    case round =>
      clear HP2 HB2 GC2
      obtain ⟨i, hi, rfl, H⟩ := hrel
      by_cases hlt : i < m
      · have d1 : decide (i < m) = true := decide_eq_true hlt
        have hiP : i < P.length := by rw [HNP.out, HPC.out.1]; exact hlt
        have hiC : i < C.length := by rw [HPC.out.2.1]; exact hlt
        have HI := Aside0.mk (And.intro hiP hiC)
        obtain ⟨f1, f2⟩ := HF0.out wr H.out.2
        obtain ⟨adp, hA, p0⟩ := int_at f1 i hiP
        obtain ⟨adc, hA2, q0, q1⟩ := cell_at25 f2 hiC
        have HROW := Aside0.mk (dRows_succ hiP hiC)
        have HPI0 : Aside0 (∀ z, Below gp V0 z → ∃ ad, A = some ad ∧ z.cell? (ad.add i) = some (.int .u8 P[i])) := ⟨fun z hz => int_at (HF0.out z hz).1 i hiP⟩
        have HX := HB.out _ (List.getElem_mem hiP)
        have HY := HU.out _ (List.getElem_mem hiC)
        subst hA hA2
        have HPI : Aside0 (∀ z, Below gp V0 z → z.cell? (adp.add i) = some (.int .u8 P[i])) := ⟨fun z hz => by obtain ⟨ad, e, h⟩ := HPI0.out z hz; rw [Option.some.inj e]; exact h⟩
        clear HPI0
        have hi0 : (0 : Int) ≤ i := by omega
        have him : (i : Int) < m := by omega
        have hin : (i : Int) < n := by have := HPC.out; omega
        obtain ⟨pi, hpi⟩ : ∃ pi, P[i] = pi := ⟨_, rfl⟩
        obtain ⟨x, hx⟩ : ∃ x, C[i] = x := ⟨_, rfl⟩
        rw [hpi] at p0 HROW HPI
        rw [hx] at q0 q1 HROW HY
        obtain ⟨y0, hy0⟩ : ∃ y0 : Nat, x.f1 = (y0 : Int) := ⟨x.f1.toNat, by unfold U32 at HY; omega⟩
        obtain ⟨x0, hx0⟩ : ∃ x0 : Nat, x.f0 % 4294967296 = (x0 : Int) := ⟨(x.f0 % 4294967296).toNat, by omega⟩
        obtain ⟨z0, hz0⟩ : ∃ z0 : Int, x.f0 = z0 := ⟨_, rfl⟩
        have hcb : cellB true x = lowN x0 4 ++ lowN y0 4 := by unfold cellB; rw [if_pos rfl, hx0, hy0]; simp
        rw [hcb] at HROW
        rw [hz0] at q0 hx0
        rw [hy0] at q1 HY
        have HXW : Aside0 (IntKind.u32.wrap z0 = (x0 : Int) ∧ x0 < 4294967296 ∧ y0 < 4294967296) := ⟨by rw [IntKind.wrap_u32, hx0], by omega, by unfold U32 at HY; omega⟩
        have HLEN : Aside0 ((dHead tk hs n ++ dRows (P.take i) (C.take i)).length ≤ 10000) := ⟨by
          have h1 := dRows_len (P.take i) (C.take i)
          have h2 : (P.take i).length ≤ n := by rw [List.length_take, HNP.out]; omega
          simp only [List.length_append, dHead, lowN_length, List.length_cons, List.length_nil]
          omega⟩
        clear hpi hx hcb hx0 hz0 hy0 HX HY f1 f2
        obtain ⟨W0, hW0⟩ : ∃ W0, dHead tk hs n ++ dRows (P.take i) (C.take i) = W0 := ⟨_, rfl⟩
        rw [hW0] at H HLEN
        have HW0 := Aside0.mk hW0
        clear hW0
        go_wp2_with fail
        have HC0 : Aside0 (Below gp V0 (wr.alloc (.cells #[.int .i32 z0, .int .u32 y0] 59))) := ⟨H.out.2.trans (below_alloc (Below.refl _ _) _ |>.mono (by obtain ⟨v, hv⟩ := H.out.1; exact Nat.le_of_lt hv.lt))⟩
        have HS0 : Aside0 (∃ v, Pn (wr.alloc (.cells #[.int .i32 z0, .int .u32 y0] 59)) gp gp W0 v ∧ v.ownBlock ≠ some wr.heap.size) := ⟨by
          obtain ⟨v, hv⟩ := H.out.1
          exact ⟨v, hv.below (below_alloc (Below.refl _ _) _), fun e => by have := hv.own _ e; omega⟩⟩
        have GC0 := Aside0.mk (blk_new wr (.cells #[.int .i32 z0, .int .u32 y0] 59))
        have GNE : Aside0 (wr.heap.size ≠ gp ∧ gp ≤ wr.heap.size) := ⟨by obtain ⟨v, hv⟩ := H.out.1; have := hv.lt; exact ⟨by omega, by omega⟩⟩
        have GSZ : Aside0 (gp ≤ (wr.alloc (.cells #[.int .i32 z0, .int .u32 y0] 59)).heap.size) := ⟨by have := GNE.out.2; simp; omega⟩
        generalize wr.alloc (.cells #[.int .i32 z0, .int .u32 y0] 59) = z1 at *
        generalize wr.heap.size = gc at *
        clear H
        refine regionS (W := z1)
          [fun _ v => v = .pointer (some ⟨gd, 2, none⟩),
           fun _ v => v = .slice (some adp) n c,
           fun _ v => v = .int .i64 i,
           fun _ v => v = .pointer (some (adp.add i)),
           fun _ v => v = .int .u8 pi,
           fun _ v => v = .pointer (some ⟨gp, 0, none⟩),
           fun _ v => v = .pointer (some ⟨gc, 0, none⟩),
           fun _ v => v = .int .i32 z0,
           fun _ v => v = .int .u32 x0,
           fun _ v => v = .pointer (some ⟨gp, 0, none⟩),
           fun _ v => v = .pointer (some ⟨gc, 1, none⟩),
           fun _ v => v = .int .u32 y0,
           fun _ v => v = .pointer (some ⟨gp, 0, none⟩)]
          [5, 9, 12]
          (fun t => match t with | 0 => fun (rs : List Value) (w : World) => ∃ v, Pn w gp gp W0 v ∧ v.ownBlock ≠ some gc | 1 => fun (rs : List Value) (w : World) => ∃ v, Pn w gp gp (W0 ++ [pi]) v ∧ v.ownBlock ≠ some gc | 2 => fun (rs : List Value) (w : World) => ∃ v, Pn w gp gp (W0 ++ [pi] ++ lowN x0 4) v ∧ v.ownBlock ≠ some gc | 3 => fun (rs : List Value) (w : World) => ∃ v, Pn w gp gp (W0 ++ [pi] ++ lowN x0 4 ++ lowN y0 4) v ∧ v.ownBlock ≠ some gc | _ => fun _ _ => False)
          (fun _ _ _ => True) (fun w => Below gp V0 w ∧ gp ≤ w.heap.size ∧ w.heap[gc]? = some (.cells #[.int .i32 z0, .int .u32 y0] 59 (0, 0)))
          (fun j =>  none)
          [(0, some 28), (1, some 29), (2, some 30), (3, some 31), (4, some 32), (5, some 33), (6, some 34), (7, some 35), (8, some 36), (9, some 37), (10, some 38), (11, some 39), (12, some 40)]
          []
          (by kernel_rfl) (by kernel_rfl) (by kernel_rfl) (by kernel_rfl) (by kernel_rfl) ?z8_2c ?z8_2i ?z8_2b ?z8_2d ?z8_2g ⟨?z8_2t0, ?z8_2t1, ?z8_2t2, ?z8_2t3, ?z8_2t4, ?z8_2t5, ?z8_2t6, ?z8_2t7, ?z8_2t8, ?z8_2t9, ?z8_2t10, ?z8_2t11, ?z8_2t12, trivial⟩ ⟨?z8_2o0, ?z8_2o1, ?z8_2o2, ?z8_2o3, ?z8_2o4, ?z8_2o5, ?z8_2o6, ?z8_2o7, ?z8_2o8, ?z8_2o9, ?z8_2o10, ?z8_2o11, ?z8_2o12, trivial⟩ ?z8_2e
        case z8_2c => exact ⟨HC0.out.trans (below_drew (Below.refl _ _)), GSZ.out, GC0.out⟩
        case z8_2i => exact HS0.out
        case z8_2b => intro w w' hb h; exact ⟨h.1.trans (hb.mono h.2.1), Nat.le_trans h.2.1 hb.size, blk_below h.2.2 hb⟩
        case z8_2d =>
          intro t rs w w' hb h
          match t, h with
          | 0, h => (replace h : ∃ v, Pn w gp gp W0 v ∧ v.ownBlock ≠ some gc := h); show ∃ v, Pn w' gp gp W0 v ∧ v.ownBlock ≠ some gc; (obtain ⟨v, h, h2⟩ := h; exact ⟨v, h.below hb, h2⟩)
          | 1, h => (replace h : ∃ v, Pn w gp gp (W0 ++ [pi]) v ∧ v.ownBlock ≠ some gc := h); show ∃ v, Pn w' gp gp (W0 ++ [pi]) v ∧ v.ownBlock ≠ some gc; (obtain ⟨v, h, h2⟩ := h; exact ⟨v, h.below hb, h2⟩)
          | 2, h => (replace h : ∃ v, Pn w gp gp (W0 ++ [pi] ++ lowN x0 4) v ∧ v.ownBlock ≠ some gc := h); show ∃ v, Pn w' gp gp (W0 ++ [pi] ++ lowN x0 4) v ∧ v.ownBlock ≠ some gc; (obtain ⟨v, h, h2⟩ := h; exact ⟨v, h.below hb, h2⟩)
          | 3, h => (replace h : ∃ v, Pn w gp gp (W0 ++ [pi] ++ lowN x0 4 ++ lowN y0 4) v ∧ v.ownBlock ≠ some gc := h); show ∃ v, Pn w' gp gp (W0 ++ [pi] ++ lowN x0 4 ++ lowN y0 4) v ∧ v.ownBlock ≠ some gc; (obtain ⟨v, h, h2⟩ := h; exact ⟨v, h.below hb, h2⟩)
          | _ + 4, h => exact h.elim
        case z8_2g =>
          intro j hj; cases hj
        case z8_2t0 => exact StabS.const _ _ _ _
        case z8_2t1 => exact StabS.const _ _ _ _
        case z8_2t2 => exact StabS.const _ _ _ _
        case z8_2t3 => exact StabS.const _ _ _ _
        case z8_2t4 => exact StabS.const _ _ _ _
        case z8_2t5 => exact StabS.const _ _ _ _
        case z8_2t6 => exact StabS.const _ _ _ _
        case z8_2t7 => exact StabS.const _ _ _ _
        case z8_2t8 => exact StabS.const _ _ _ _
        case z8_2t9 => exact StabS.const _ _ _ _
        case z8_2t10 => exact StabS.const _ _ _ _
        case z8_2t11 => exact StabS.const _ _ _ _
        case z8_2t12 => exact StabS.const _ _ _ _
        case z8_2o0 =>
          intro vs w t hC ht1 ht2 hS hV
          rw [if_pos (by kernel_rfl)]
          generalize hρ : rho _ _ _ vs = ρ
          have e1 : ρ (.tmp 1) = .pointer (some ⟨gd, 0, none⟩) := by rw [← hρ]; kernel_rfl
          clear hρ hV
          refine runs_val (v := .pointer (some ⟨gd, 2, none⟩)) (w' := w) ?_ ⟨Below.refl _ _, rfl⟩
          clear ht1 ht2 hS hC
          go_simp <;> (first | exact IntWalk.u64_in _ (by omega) | exact IntWalk.u32_in _ (by omega) | exact IntWalk.u16_in _ (by omega) | exact IntWalk.u8_in _ (by omega) | exact IntWalk.i64_in _ (by omega) | skip)
        case z8_2o1 =>
          intro vs w t hC ht1 ht2 hS hV
          rw [if_pos (by kernel_rfl)]
          generalize hρ : rho _ _ _ vs = ρ
          have d28 : (vs 0) = .pointer (some ⟨gd, 2, none⟩) := hV 0 (by kernel_rfl)
          have e28 : ρ (.tmp 28) = vs 0 := by rw [← hρ]; kernel_rfl
          rw [d28] at e28; clear d28
          clear hρ hV
          have c0 := blk_cell ((hC.1.block gd GD.out).trans HG0.out) 2
          refine runs_val (v := .slice (some adp) n c) (w' := w) ?_ ⟨Below.refl _ _, rfl⟩
          clear ht1 ht2 hS hC
          go_simp
        case z8_2o2 =>
          intro vs w t hC ht1 ht2 hS hV
          rw [if_pos (by kernel_rfl)]
          generalize hρ : rho _ _ _ vs = ρ
          have e4 : ρ (.tmp 4) = .int .i64 i := by rw [← hρ]; kernel_rfl
          clear hρ hV
          refine runs_val (v := .int .i64 i) (w' := w) ?_ ⟨Below.refl _ _, rfl⟩
          clear ht1 ht2 hS hC
          go_simp <;> (first | exact IntWalk.u64_in _ (by omega) | exact IntWalk.u32_in _ (by omega) | exact IntWalk.u16_in _ (by omega) | exact IntWalk.u8_in _ (by omega) | exact IntWalk.i64_in _ (by omega) | skip)
        case z8_2o3 =>
          intro vs w t hC ht1 ht2 hS hV
          rw [if_pos (by kernel_rfl)]
          generalize hρ : rho _ _ _ vs = ρ
          have d29 : (vs 1) = .slice (some adp) n c := hV 1 (by kernel_rfl)
          have e29 : ρ (.tmp 29) = vs 1 := by rw [← hρ]; kernel_rfl
          rw [d29] at e29; clear d29
          have d30 : (vs 2) = .int .i64 i := hV 2 (by kernel_rfl)
          have e30 : ρ (.tmp 30) = vs 2 := by rw [← hρ]; kernel_rfl
          rw [d30] at e30; clear d30
          clear hρ hV
          refine runs_val (v := .pointer (some (adp.add i))) (w' := w) ?_ ⟨Below.refl _ _, rfl⟩
          clear ht1 ht2 hS hC
          go_simp <;> (first | exact IntWalk.u64_in _ (by omega) | exact IntWalk.u32_in _ (by omega) | exact IntWalk.u16_in _ (by omega) | exact IntWalk.u8_in _ (by omega) | exact IntWalk.i64_in _ (by omega) | skip)
        case z8_2o4 =>
          intro vs w t hC ht1 ht2 hS hV
          rw [if_pos (by kernel_rfl)]
          generalize hρ : rho _ _ _ vs = ρ
          have d31 : (vs 3) = .pointer (some (adp.add i)) := hV 3 (by kernel_rfl)
          have e31 : ρ (.tmp 31) = vs 3 := by rw [← hρ]; kernel_rfl
          rw [d31] at e31; clear d31
          clear hρ hV
          have c0 := HPI.out w hC.1
          refine runs_val (v := .int .u8 pi) (w' := w) ?_ ⟨Below.refl _ _, rfl⟩
          clear ht1 ht2 hS hC
          go_simp
        case z8_2o5 =>
          intro vs w hC hS hV
          replace hS : ∃ v, Pn w gp gp W0 v ∧ v.ownBlock ≠ some gc := hS
          rw [if_pos (by kernel_rfl)]
          generalize hρ : rho _ _ _ vs = ρ
          have e3 : ρ (.tmp 3) = .pointer (some ⟨gp, 0, none⟩) := by rw [← hρ]; kernel_rfl
          have d32 : (vs 4) = .int .u8 pi := hV 4 (by kernel_rfl)
          have e32 : ρ (.tmp 32) = vs 4 := by rw [← hρ]; kernel_rfl
          rw [d32] at e32; clear d32
          have ef38 : ρ (.func 38) = .func (.func 38) #[] #[] := by rw [← hρ]; rfl
          clear hρ hV
          obtain ⟨v, hp, hv⟩ := hS
          refine runs_call (f := 38) (args := #[.pointer (some ⟨gp, 0, none⟩), .int .u8 pi]) (w' := w) ?_ ?_
          · go_simp
          · refine (pbyte_any gp gp W0 v _ w hp (Nat.le_refl _) (by have := HLEN.out; omega)).mono ?_
            rintro e w5 ⟨v', rfl, h⟩
            obtain ⟨k1, k2⟩ := h.blk hC.2.2 GNE.out.1 hv
            exact ⟨_, rfl, ⟨hC.1.trans h.2.2.2, Nat.le_trans hC.2.1 h.2.1.1, k1⟩, trivial, rfl, ⟨v', h.1, k2⟩⟩
        case z8_2o6 =>
          intro vs w t hC ht1 ht2 hS hV
          rw [if_pos (by kernel_rfl)]
          generalize hρ : rho _ _ _ vs = ρ
          have e5 : ρ (.tmp 5) = .pointer (some ⟨gc, 0, none⟩) := by rw [← hρ]; kernel_rfl
          clear hρ hV
          refine runs_val (v := .pointer (some ⟨gc, 0, none⟩)) (w' := w) ?_ ⟨Below.refl _ _, rfl⟩
          clear ht1 ht2 hS hC
          go_simp <;> (first | exact IntWalk.u64_in _ (by omega) | exact IntWalk.u32_in _ (by omega) | exact IntWalk.u16_in _ (by omega) | exact IntWalk.u8_in _ (by omega) | exact IntWalk.i64_in _ (by omega) | skip)
        case z8_2o7 =>
          intro vs w t hC ht1 ht2 hS hV
          rw [if_pos (by kernel_rfl)]
          generalize hρ : rho _ _ _ vs = ρ
          have d34 : (vs 6) = .pointer (some ⟨gc, 0, none⟩) := hV 6 (by kernel_rfl)
          have e34 : ρ (.tmp 34) = vs 6 := by rw [← hρ]; kernel_rfl
          rw [d34] at e34; clear d34
          clear hρ hV
          have c0 := blk_cell hC.2.2 0
          refine runs_val (v := .int .i32 z0) (w' := w) ?_ ⟨Below.refl _ _, rfl⟩
          clear ht1 ht2 hS hC
          go_simp
        case z8_2o8 =>
          intro vs w t hC ht1 ht2 hS hV
          rw [if_pos (by kernel_rfl)]
          generalize hρ : rho _ _ _ vs = ρ
          have d35 : (vs 7) = .int .i32 z0 := hV 7 (by kernel_rfl)
          have e35 : ρ (.tmp 35) = vs 7 := by rw [← hρ]; kernel_rfl
          rw [d35] at e35; clear d35
          clear hρ hV
          have ix := HXW.out.1
          refine runs_val (v := .int .u32 x0) (w' := w) ?_ ⟨Below.refl _ _, rfl⟩
          clear ht1 ht2 hS hC
          rw [← ix]
          clear ix
          go_simp
        case z8_2o9 =>
          intro vs w hC hS hV
          replace hS : ∃ v, Pn w gp gp (W0 ++ [pi]) v ∧ v.ownBlock ≠ some gc := hS
          rw [if_pos (by kernel_rfl)]
          generalize hρ : rho _ _ _ vs = ρ
          have d33 : (vs 5) = .pointer (some ⟨gp, 0, none⟩) := hV 5 (by kernel_rfl)
          have e33 : ρ (.tmp 33) = vs 5 := by rw [← hρ]; kernel_rfl
          rw [d33] at e33; clear d33
          have d36 : (vs 8) = .int .u32 x0 := hV 8 (by kernel_rfl)
          have e36 : ρ (.tmp 36) = vs 8 := by rw [← hρ]; kernel_rfl
          rw [d36] at e36; clear d36
          have ef39 : ρ (.func 39) = .func (.func 39) #[] #[] := by rw [← hρ]; rfl
          clear hρ hV
          obtain ⟨v, hp, hv⟩ := hS
          refine runs_call (f := 39) (args := #[.pointer (some ⟨gp, 0, none⟩), .int .u32 x0]) (w' := w) ?_ ?_
          · go_simp
          · refine (pword_any gp gp (W0 ++ [pi]) v x0 HXW.out.2.1 w hp (Nat.le_refl _) (by have := HLEN.out; simp only [List.length_append, List.length_cons, List.length_nil]; omega)).mono ?_
            rintro e w5 ⟨v', rfl, h⟩
            obtain ⟨k1, k2⟩ := h.blk hC.2.2 GNE.out.1 hv
            exact ⟨_, rfl, ⟨hC.1.trans h.2.2.2, Nat.le_trans hC.2.1 h.2.1.1, k1⟩, trivial, rfl, ⟨v', h.1, k2⟩⟩
        case z8_2o10 =>
          intro vs w t hC ht1 ht2 hS hV
          rw [if_pos (by kernel_rfl)]
          generalize hρ : rho _ _ _ vs = ρ
          have e5 : ρ (.tmp 5) = .pointer (some ⟨gc, 0, none⟩) := by rw [← hρ]; kernel_rfl
          clear hρ hV
          refine runs_val (v := .pointer (some ⟨gc, 1, none⟩)) (w' := w) ?_ ⟨Below.refl _ _, rfl⟩
          clear ht1 ht2 hS hC
          go_simp <;> (first | exact IntWalk.u64_in _ (by omega) | exact IntWalk.u32_in _ (by omega) | exact IntWalk.u16_in _ (by omega) | exact IntWalk.u8_in _ (by omega) | exact IntWalk.i64_in _ (by omega) | skip)
        case z8_2o11 =>
          intro vs w t hC ht1 ht2 hS hV
          rw [if_pos (by kernel_rfl)]
          generalize hρ : rho _ _ _ vs = ρ
          have d38 : (vs 10) = .pointer (some ⟨gc, 1, none⟩) := hV 10 (by kernel_rfl)
          have e38 : ρ (.tmp 38) = vs 10 := by rw [← hρ]; kernel_rfl
          rw [d38] at e38; clear d38
          clear hρ hV
          have c0 := blk_cell hC.2.2 1
          refine runs_val (v := .int .u32 y0) (w' := w) ?_ ⟨Below.refl _ _, rfl⟩
          clear ht1 ht2 hS hC
          go_simp
        case z8_2o12 =>
          intro vs w hC hS hV
          replace hS : ∃ v, Pn w gp gp (W0 ++ [pi] ++ lowN x0 4) v ∧ v.ownBlock ≠ some gc := hS
          rw [if_pos (by kernel_rfl)]
          generalize hρ : rho _ _ _ vs = ρ
          have d37 : (vs 9) = .pointer (some ⟨gp, 0, none⟩) := hV 9 (by kernel_rfl)
          have e37 : ρ (.tmp 37) = vs 9 := by rw [← hρ]; kernel_rfl
          rw [d37] at e37; clear d37
          have d39 : (vs 11) = .int .u32 y0 := hV 11 (by kernel_rfl)
          have e39 : ρ (.tmp 39) = vs 11 := by rw [← hρ]; kernel_rfl
          rw [d39] at e39; clear d39
          have ef39 : ρ (.func 39) = .func (.func 39) #[] #[] := by rw [← hρ]; rfl
          clear hρ hV
          obtain ⟨v, hp, hv⟩ := hS
          refine runs_call (f := 39) (args := #[.pointer (some ⟨gp, 0, none⟩), .int .u32 y0]) (w' := w) ?_ ?_
          · go_simp
          · refine (pword_any gp gp (W0 ++ [pi] ++ lowN x0 4) v y0 HXW.out.2.2 w hp (Nat.le_refl _) (by have := HLEN.out; simp only [List.length_append, List.length_cons, List.length_nil, lowN_length]; omega)).mono ?_
            rintro e w5 ⟨v', rfl, h⟩
            obtain ⟨k1, k2⟩ := h.blk hC.2.2 GNE.out.1 hv
            exact ⟨_, rfl, ⟨hC.1.trans h.2.2.2, Nat.le_trans hC.2.1 h.2.1.1, k1⟩, trivial, rfl, ⟨v', h.1, k2⟩⟩
        case z8_2e =>
          intro vs z2 hC hS hV
          replace hS : (fun (w : World) => ∃ v, Pn w gp gp (W0 ++ [pi] ++ lowN x0 4 ++ lowN y0 4) v ∧ v.ownBlock ≠ some gc) z2 := hS
          have d28 : (vs 0) = .pointer (some ⟨gd, 2, none⟩) := hV 0 (Nat.le_of_ble_eq_true rfl)
          have d29 : (vs 1) = .slice (some adp) n c := hV 1 (Nat.le_of_ble_eq_true rfl)
          have d30 : (vs 2) = .int .i64 i := hV 2 (Nat.le_of_ble_eq_true rfl)
          have d31 : (vs 3) = .pointer (some (adp.add i)) := hV 3 (Nat.le_of_ble_eq_true rfl)
          have d32 : (vs 4) = .int .u8 pi := hV 4 (Nat.le_of_ble_eq_true rfl)
          have d33 : (vs 5) = .pointer (some ⟨gp, 0, none⟩) := hV 5 (Nat.le_of_ble_eq_true rfl)
          have d34 : (vs 6) = .pointer (some ⟨gc, 0, none⟩) := hV 6 (Nat.le_of_ble_eq_true rfl)
          have d35 : (vs 7) = .int .i32 z0 := hV 7 (Nat.le_of_ble_eq_true rfl)
          have d36 : (vs 8) = .int .u32 x0 := hV 8 (Nat.le_of_ble_eq_true rfl)
          have d37 : (vs 9) = .pointer (some ⟨gp, 0, none⟩) := hV 9 (Nat.le_of_ble_eq_true rfl)
          have d38 : (vs 10) = .pointer (some ⟨gc, 1, none⟩) := hV 10 (Nat.le_of_ble_eq_true rfl)
          have d39 : (vs 11) = .int .u32 y0 := hV 11 (Nat.le_of_ble_eq_true rfl)
          have d40 : (vs 12) = .pointer (some ⟨gp, 0, none⟩) := hV 12 (Nat.le_of_ble_eq_true rfl)
          clear hV
          simp only [putAll]
          rw [d28, d29, d30, d31, d32, d33, d34, d35, d36, d37, d38, d39, d40]
          clear d28 d29 d30 d31 d32 d33 d34 d35 d36 d37 d38 d39 d40
          clear vs
          simp only [Act.put, List.setIfInBounds_toArray, List.set_cons_zero, List.set_cons_succ]
          have HE : Aside0 ((∃ v, Pn z2 gp gp (dHead tk hs n ++ dRows (P.take (i + 1)) (C.take (i + 1))) v) ∧ Below gp V0 z2) := ⟨by
            obtain ⟨v, h1, _⟩ := hS
            refine ⟨⟨v, ?_⟩, hC.1⟩
            rw [HROW.out, ← List.append_assoc, HW0.out]
            have e : W0 ++ (pi :: (lowN x0 4 ++ lowN y0 4)) = W0 ++ [pi] ++ lowN x0 4 ++ lowN y0 4 := by simp
            rw [e]; exact h1⟩
          clear hS hC HC0 HS0 GC0 GNE GSZ
          go_wp2_with fail
          go_roundw
          case rel => exact ⟨i + 1, by omega, by go_num, HE⟩
          case measure => simp [intOf]; omega
      · obtain rfl : i = m := by omega
        have d1 : decide (i < i) = false := decide_eq_false (by omega)
        obtain ⟨v, hv⟩ := H.out.1
        have HE : Aside0 (dHead tk hs n ++ dRows (P.take i) (C.take i) = dBytes tk hs P C) := ⟨by unfold dBytes; rw [List.take_of_length_le (by rw [HNP.out, HPC.out.1]; omega), List.take_of_length_le (by rw [HPC.out.2.1]; omega), HNP.out]⟩
        rw [HE.out] at hv
        have HLEN : Aside0 ((dBytes tk hs P C).length ≤ 1000000) := ⟨by
          have h1 := dRows_len P C
          have := HPC.out
          have := HNP.out
          simp only [dBytes, List.length_append, dHead, lowN_length, List.length_cons, List.length_nil]
          omega⟩
        have KEY := Aside0.mk (pbytes_any gp gp (dBytes tk hs P C) v wr hv HLEN.out)
        have HBW := Aside0.mk H.out.2
        have GSW : Aside0 (gp ≤ wr.heap.size) := ⟨Nat.le_of_lt hv.lt⟩
        clear hv H HLEN HE
        generalize hdw : dBytes tk hs P C = dw at *
        have HDW := Aside0.mk hdw
        clear hdw
        go_wp2_with fail
        refine KEY.out.mono ?_
        rintro e wz ⟨vo, rfl, k1, k2⟩
        have K1 := Aside0.mk k1
        have K2 := Aside0.mk k2
        clear k1 k2 KEY
        go_wp2_with fail
        go_ret
        rw [HGD.out]
        try rw [HDW.out]
        exact ⟨vo, rfl, Kd.R_lower K1.out (Nat.le_trans (Nat.le_of_lt GD.out) GSW.out), H1.out.bel.trans ((HBW.out.trans (K2.out.mono GSW.out)).mono (Nat.le_of_lt GD.out))⟩
end Go.Proofs.Yticpjidcgaaldaa

namespace Go.Proofs.Yticpjidcgaaldaa
open Go.RowKit Go.Proofs.YticpjidcgaaldaaW.PrintWords Go.Proofs.YticpjidcgaaldaaW.PrintLast Go.Proofs.YticpjidcgaaldaaW.PrintMore
set_option linter.unusedVariables false
set_option linter.unusedSimpArgs false

def OfR (w0 : Nat) (w' : World) (tk hs : Int) (P : List Int) (C : List S59) (v : Value) : Prop :=
  ∃ A c A2 c2, v = .agg #[.int .u32 tk, .int .u32 hs, .slice A P.length c, .slice A2 C.length c2] ∧ P.length ≤ c ∧ C.length ≤ c2 ∧
    (Kd.int .u8).R 5 w' w0 (fun _ => True) (.slice A P.length c) P ∧ k59.R 59 w' w0 (fun _ => True) (.slice A2 C.length c2) C
theorem OfR.cells {w0 : Nat} {w' : World} {tk hs : Int} {P : List Int} {C : List S59} {v : Value} (h : OfR w0 w' tk hs P C v) :
    ∃ A c A2 c2, v = .agg #[.int .u32 tk, .int .u32 hs, .slice A P.length c, .slice A2 C.length c2] ∧ P.length ≤ c ∧ C.length ≤ c2 ∧ (Kd.int .u8).C w' A P.length P ∧ k59.C w' A2 C.length C := by
  obtain ⟨A, c, A2, c2, rfl, h1, h2, h3, h4⟩ := h
  exact ⟨A, c, A2, c2, rfl, h1, h2, (Ru_C h3).2.2, (Ru_C h4).2.2⟩
end Go.Proofs.Yticpjidcgaaldaa

namespace Go.Proofs.Yticpjidcgaaldaa
open Go.RowKit Go.Proofs.YticpjidcgaaldaaW.PrintWords Go.Proofs.YticpjidcgaaldaaW.PrintLast Go.Proofs.YticpjidcgaaldaaW.PrintMore
set_option linter.unusedVariables false
set_option linter.unusedSimpArgs false

end Go.Proofs.Yticpjidcgaaldaa

namespace Go.Proofs.Yticpjidcgaaldaa
open Go.RowKit Go.Proofs.YticpjidcgaaldaaW.PrintWords Go.Proofs.YticpjidcgaaldaaW.PrintLast Go.Proofs.YticpjidcgaaldaaW.PrintMore
set_option linter.unusedVariables false
set_option linter.unusedSimpArgs false

theorem same_l0 (x y : List Int) (hl : x.length = y.length) (hx : x.length ≤ 9223372036854775807) : ∀ (d k i : Nat), i + d = x.length → d < k →
    hoodwinkref01_Same.l0 k x y (x.length : Int) (i : Int) = some (decide (x.drop i = y.drop i))
  | 0, k, i, hi, hk => by
    obtain ⟨k, rfl⟩ : ∃ q, k = q + 1 := ⟨k - 1, by omega⟩
    simp only [hoodwinkref01_Same.l0]
    rw [if_neg (by omega), List.drop_of_length_le (by omega), List.drop_of_length_le (by omega)]
    simp
  | d + 1, k, i, hi, hk => by
    obtain ⟨k, rfl⟩ : ∃ q, k = q + 1 := ⟨k - 1, by omega⟩
    have ih := same_l0 x y hl hx d k (i + 1) (by omega) (by omega)
    have hix : i < x.length := by omega
    have hiy : i < y.length := by omega
    simp only [hoodwinkref01_Same.l0]
    rw [if_pos (by omega), if_pos (by omega), if_pos (by omega), if_pos (by omega), next64 (by omega), rd_getElem hix, rd_getElem hiy]
    have e : decide (x.drop i = y.drop i) = decide (x[i] = y[i] ∧ x.drop (i + 1) = y.drop (i + 1)) :=
      decide_eq_decide.2 (by rw [List.drop_eq_getElem_cons hix, List.drop_eq_getElem_cons hiy, List.cons.injEq])
    rw [e]
    by_cases h : x[i] = y[i]
    · rw [if_pos h, ih]; exact congrArg some (decide_eq_decide.2 ⟨fun q => ⟨h, q⟩, fun q => q.2⟩)
    · rw [if_neg h, decide_eq_false (fun q => h q.1)]
theorem same_f (x y : List Int) (hx : x.length ≤ 9223372036854775807) : hoodwinkref01_Same.f (x.length + 1) x y = some (decide (x = y)) := by
  unfold hoodwinkref01_Same.f
  by_cases h : x.length = y.length
  · rw [if_pos (by omega)]
    have := same_l0 x y h hx x.length (x.length + 1) 0 (by omega) (by omega)
    simpa using this
  · rw [if_neg (by omega)]
    have : x ≠ y := fun e => h (by rw [e])
    simp [this]
theorem same_any (A B : Option Addr) (n m c c' : Nat) (x y : List Int) (w : World) (hx : (Kd.int .u8).C w A n x) (hc : n ≤ c) (hy : (Kd.int .u8).C w B m y) (hc' : m ≤ c') :
    Calls Try.prog 18 #[.slice A n c, .slice B m c'] w fun e w' => e = .returned (.bool (decide (x = y))) ∧ Below w.heap.size w w' := by
  have hm := hx.2.1
  obtain rfl := hx.1
  obtain rfl := hy.1
  exact (hoodwinkref01_Same.calls (x.length + 1) A c x B c' y _ w hx hc hy hc' (same_f x y hm)).mono fun e w' ⟨h1, h2⟩ => ⟨h1, h2.below⟩

def BvC (w : World) (l : List Int) (v : Value) : Prop := ∃ A c, v = .slice A l.length c ∧ l.length ≤ c ∧ (Kd.int .u8).C w A l.length l
theorem BvC.below {w w' : World} {l : List Int} {v : Value} (h : BvC w l v) (hb : Below w.heap.size w w') : BvC w' l v := by
  obtain ⟨A, c, h1, h2, h3⟩ := h
  exact ⟨A, c, h1, h2, Kd.C_below h3 hb⟩
theorem BvC.of_R {w : World} {b : Nat} {ok : Nat → Prop} {l : List Int} {v : Value} (h : (Kd.int .u8).R 5 w b ok v l) : BvC w l v := by
  obtain ⟨A, c, h1, h2, h3⟩ := Kd.R_reads h
  exact ⟨A, c, h1, h2, h3⟩
def DvC (w : World) (tk hs : Int) (P : List Int) (C : List S59) (v : Value) : Prop :=
  ∃ A c A2 c2, v = .agg #[.int .u32 tk, .int .u32 hs, .slice A P.length c, .slice A2 C.length c2] ∧ P.length ≤ c ∧ C.length ≤ c2 ∧ (Kd.int .u8).C w A P.length P ∧ k59.C w A2 C.length C
theorem DvC.below {w w' : World} {tk hs : Int} {P : List Int} {C : List S59} {v : Value} (h : DvC w tk hs P C v) (hb : Below w.heap.size w w') : DvC w' tk hs P C v := by
  obtain ⟨A, c, A2, c2, h1, h2, h3, h4, h5⟩ := h
  exact ⟨A, c, A2, c2, h1, h2, h3, Kd.C_below h4 hb, Kd.C_below h5 hb⟩
theorem same_told (a b : List Int) (x y : Value) (w : World) (hx : BvC w a x) (hy : BvC w b y) :
    Calls Try.prog 18 #[x, y] w fun e w' => e = .returned (.bool (decide (a = b))) ∧ Below w.heap.size w w' := by
  obtain ⟨A, c, rfl, h1, h2⟩ := hx
  obtain ⟨A2, c2, rfl, h3, h4⟩ := hy
  exact same_any A A2 _ _ c c2 a b w h2 h1 h4 h3
end Go.Proofs.Yticpjidcgaaldaa

namespace Go.Proofs.Yticpjidcgaaldaa
open Go.RowKit Go.Proofs.YticpjidcgaaldaaW.PrintWords Go.Proofs.YticpjidcgaaldaaW.PrintLast Go.Proofs.YticpjidcgaaldaaW.PrintMore
set_option linter.unusedVariables false
set_option linter.unusedSimpArgs false

end Go.Proofs.Yticpjidcgaaldaa

namespace Go.Proofs.Yticpjidcgaaldaa
open Go.RowKit Go.Proofs.YticpjidcgaaldaaW.PrintWords Go.Proofs.YticpjidcgaaldaaW.PrintLast Go.Proofs.YticpjidcgaaldaaW.PrintMore
set_option linter.unusedVariables false
set_option linter.unusedSimpArgs false

end Go.Proofs.Yticpjidcgaaldaa

namespace Go.Proofs.Yticpjidcgaaldaa
open Go.RowKit Go.Proofs.YticpjidcgaaldaaW.PrintWords Go.Proofs.YticpjidcgaaldaaW.PrintLast Go.Proofs.YticpjidcgaaldaaW.PrintMore
set_option linter.unusedVariables false
set_option linter.unusedSimpArgs false

theorem Hp.ofR {B : Nat} {w0 W W1 : World} {L : List (Nat × Obj)} {F : List (World → Prop)} {tk hs : Int} {P : List Int} {C : List S59} {v : Value} (h : Hp B w0 W L F) (hb : Below W.heap.size W W1) (hr : OfR W.heap.size W1 tk hs P C v) : Hp B w0 W1 L ((fun X => OfR B X tk hs P C v) :: F) := by
  refine h.told hb (fun W' h0 hq => ?_)
  obtain ⟨A, c, A2, c2, e, h1, h2, h3, h4⟩ := hr
  refine ⟨A, c, A2, c2, e, h1, h2, ?_, ?_⟩
  · exact Kd.R_mono (Kd.R_lower (Kd.R_step (Kd.R_mono (Kd.R_bound h3) (fun k hk => (⟨hk.2.1, hk.2.2.1⟩ : W.heap.size ≤ k ∧ k < W1.heap.size))) (fun k hk hlt => hq k hk.1 hk.2)) h.le) (fun _ _ => trivial)
  · exact Kd.R_mono (Kd.R_lower (Kd.R_step (Kd.R_mono (Kd.R_bound h4) (fun k hk => (⟨hk.2.1, hk.2.2.1⟩ : W.heap.size ≤ k ∧ k < W1.heap.size))) (fun k hk hlt => hq k hk.1 hk.2)) h.le) (fun _ _ => trivial)
theorem R_fills {α : Type} {d : Kd α} {e b B : Nat} {w w' : World} {Zc : Array Value} {F : Obj} {v : Value} {xs : List α} {T : TypeId} (h : d.R e w b (fun _ => True) v xs) (hE : d.E = []) (hT : e ≠ T) (hf : Fills B (.cells Zc T (0, 0)) F w w') : d.R e w' b (fun _ => True) v xs := by
  refine Kd.R_mono (Kd.R_step (Kd.R_bound h) (fun k hk hlt => ?_)) (fun _ _ => trivial)
  rcases hf.2 k hlt with h1 | ⟨_, h1, _⟩
  · exact h1
  · obtain ⟨_, _, _, q, hq, cells, h2⟩ := hk
    rw [hE] at hq
    obtain rfl := List.mem_singleton.1 hq
    rw [h1] at h2
    simp only [Option.some.injEq, Obj.cells.injEq] at h2
    exact absurd h2.2.1.symm hT
end Go.Proofs.Yticpjidcgaaldaa

namespace Go.Proofs.Yticpjidcgaaldaa
open Go.RowKit Go.Proofs.YticpjidcgaaldaaW.PrintWords Go.Proofs.YticpjidcgaaldaaW.PrintLast Go.Proofs.YticpjidcgaaldaaW.PrintMore
set_option linter.unusedVariables false
set_option linter.unusedSimpArgs false

end Go.Proofs.Yticpjidcgaaldaa

namespace Go.Proofs.Yticpjidcgaaldaa
open Go.RowKit Go.Proofs.YticpjidcgaaldaaW.PrintWords Go.Proofs.YticpjidcgaaldaaW.PrintLast Go.Proofs.YticpjidcgaaldaaW.PrintMore
set_option linter.unusedVariables false
set_option linter.unusedSimpArgs false

def DrC (w : World) (tk hs : Int) (P : List Int) (R : List S97) (v : Value) : Prop :=
  ∃ A c A2 c2, v = .agg #[.int .u32 tk, .int .u32 hs, .slice A P.length c, .slice A2 R.length c2] ∧ P.length ≤ c ∧ R.length ≤ c2 ∧ (Kd.int .u8).C w A P.length P ∧ k97.C w A2 R.length R
theorem DrC.below {w w' : World} {tk hs : Int} {P : List Int} {R : List S97} {v : Value} (h : DrC w tk hs P R v) (hb : Below w.heap.size w w') : DrC w' tk hs P R v := by
  obtain ⟨A, c, A2, c2, h1, h2, h3, h4, h5⟩ := h
  exact ⟨A, c, A2, c2, h1, h2, h3, Kd.C_below h4 hb, Kd.C_below h5 hb⟩
end Go.Proofs.Yticpjidcgaaldaa

namespace Go.Proofs.Yticpjidcgaaldaa
open Go.RowKit Go.Proofs.YticpjidcgaaldaaW.PrintWords Go.Proofs.YticpjidcgaaldaaW.PrintLast Go.Proofs.YticpjidcgaaldaaW.PrintMore
set_option linter.unusedVariables false
set_option linter.unusedSimpArgs false

end Go.Proofs.Yticpjidcgaaldaa

namespace Go.Proofs.Yticpjidcgaaldaa
open Go.RowKit Go.Proofs.YticpjidcgaaldaaW.PrintWords Go.Proofs.YticpjidcgaaldaaW.PrintLast Go.Proofs.YticpjidcgaaldaaW.PrintMore
set_option linter.unusedVariables false

abbrev Fill := Nat × Nat × Nat
def fillsOk (ops : Array Oper) (fl : List Fill) : Bool :=
  fl.all fun f => (match ops[f.2.1]? with | some o => depOn o f.1 && depOn o f.2.2 && o.guard.isNone | none => false) && (match ops[f.1]? with | some o => o.guard.isNone | none => false) && decide (f.1 < ops.size) && decide (f.2.1 < ops.size) && decide (f.1 ≠ f.2.1) && decide (f.2.2 ≠ f.2.1) && decide (f.2.2 ≠ f.1) &&
    fl.all fun f' => (f.1 == f'.1) == (f.2.1 == f'.2.1) && (f.1 == f'.1) == (f == f') && f.1 != f'.2.1 && f.1 != f'.2.2 && f.2.1 != f'.2.2
structure FillAt (ops : Array Oper) (fl : List Fill) (f : Fill) : Prop where
  dep : ∀ o, ops[f.2.1]? = some o → depOn o f.1 = true ∧ depOn o f.2.2 = true ∧ o.guard = none
  free : ∀ o, ops[f.1]? = some o → o.guard = none
  lt : f.1 < ops.size ∧ f.2.1 < ops.size
  one : f.1 ≠ f.2.1 ∧ f.2.2 ≠ f.2.1 ∧ f.2.2 ≠ f.1
  two : ∀ f' ∈ fl, (f.1 = f'.1 ↔ f.2.1 = f'.2.1) ∧ (f.1 = f'.1 ↔ f = f') ∧ f.1 ≠ f'.2.1 ∧ f.1 ≠ f'.2.2 ∧ f.2.1 ≠ f'.2.2
theorem fillAt {ops : Array Oper} {fl : List Fill} (h : fillsOk ops fl = true) {f : Fill} (hf : f ∈ fl) : FillAt ops fl f := by
  have := List.all_eq_true.1 h f hf
  simp only [Bool.and_eq_true, decide_eq_true_eq] at this
  obtain ⟨⟨⟨⟨⟨⟨⟨h1, h2⟩, h3⟩, h4⟩, h5⟩, h6⟩, h7⟩, h8⟩ := this
  refine ⟨fun o ho => ?_, fun o ho => ?_, ⟨h3, h4⟩, ⟨h5, h6, h7⟩, fun f' hf' => ?_⟩
  · rw [ho] at h1
    simp only [Bool.and_eq_true, Option.isNone_iff_eq_none] at h1
    exact ⟨h1.1.1, h1.1.2, h1.2⟩
  · rw [ho] at h2
    simpa using h2
  · have := List.all_eq_true.1 h8 f' hf'
    simp only [Bool.and_eq_true, bne_iff_ne, ne_eq, beq_iff_eq] at this
    obtain ⟨⟨⟨⟨a, b⟩, c⟩, d⟩, e⟩ := this
    refine ⟨?_, ?_, c, d, e⟩
    · have := a
      constructor
      · intro hh; simpa [hh] using this
      · intro hh; simpa [hh] using this
    · have := b
      constructor
      · intro hh; simpa [hh] using this
      · intro hh; rw [hh]
def StabX (B : Nat) (Zo : Obj) : List (World → Value → Prop) → Prop
  | [] => True
  | p :: l => (∀ F w w' v, Fills B Zo F w w' → p w v → p w' v) ∧ StabX B Zo l
theorem StabX.at_ {B : Nat} {Zo : Obj} : ∀ (l : List (World → Value → Prop)) (i : Nat), StabX B Zo l → ∀ F w w' v, Fills B Zo F w w' → Vat l i w v → Vat l i w' v
  | [], i, _ => by
    have : Vat [] i = fun _ _ => True := by simp [Vat]
    rw [this]; exact fun _ _ _ _ _ h => h
  | p :: l, 0, h => h.1
  | p :: l, i + 1, h => by
    have := StabX.at_ l i h.2
    unfold Vat at this ⊢
    rw [List.getD_cons_succ]; exact this
def HopX (P : Program) (ops : Array Oper) (a0 : Act) (yv : Nat → Option Bool) (W : World) (fl : List Fill) (Z : Array Value) (T : TypeId) (Vl : List (World → Value → Prop)) (i : Nat) (o : Oper) : Prop :=
  match fl.find? (fun f => f.2.1 == i) with
  | some f => ∀ (vs : Nat → Value) w g cur cs, Below W.heap.size W w → (∀ j, depOn o j = true → Vat Vl j w (vs j)) → vs f.1 = .pointer (some ⟨g, 0, none⟩) → vs f.2.2 = .agg cs → w.heap[g]? = some (.cells cur T (0, 0)) → cur.size = Z.size → runs P o (rho ops a0 (depOn o) vs) w (fun _ w' => w' = w.setRow g cs)
  | none => match fl.find? (fun f => f.1 == i) with
    | some f => ∀ (vs : Nat → Value) w, runs P o (rho ops a0 (depOn o) vs) w (fun v w' => v = .pointer (some ⟨w.heap.size, 0, none⟩) ∧ w' = w.alloc (.cells Z T))
    | none => ∀ (vs : Nat → Value) w, Below W.heap.size W w → (∀ j, depOn o j = true → Vat Vl j w (vs j)) → if wants yv o = true then runs P o (rho ops a0 (depOn o) vs) w (fun v w' => Below w.heap.size w w' ∧ Vat Vl i w' v) else Vat Vl i w undef
def HopXAll (P : Program) (ops : Array Oper) (a0 : Act) (yv : Nat → Option Bool) (W : World) (fl : List Fill) (Z : Array Value) (T : TypeId) (Vl : List (World → Value → Prop)) : Nat → List Oper → Prop
  | _, [] => True
  | i, o :: l => HopX P ops a0 yv W fl Z T Vl i o ∧ HopXAll P ops a0 yv W fl Z T Vl (i + 1) l
theorem HopXAll.at_ {P : Program} {ops : Array Oper} {a0 : Act} {yv : Nat → Option Bool} {W : World} {fl : List Fill} {Z : Array Value} {T : TypeId} {Vl : List (World → Value → Prop)} : ∀ (l : List Oper) (k i : Nat) (o : Oper), HopXAll P ops a0 yv W fl Z T Vl k l → l[i]? = some o → HopX P ops a0 yv W fl Z T Vl (k + i) o
  | [], k, i, o, _, h => by simp at h
  | x :: l, k, 0, o, h, ho => by
    obtain rfl : x = o := by simpa using ho
    exact h.1
  | x :: l, k, i + 1, o, h, ho => by
    have := HopXAll.at_ l (k + 1) i o h.2 (by simpa using ho)
    rw [show k + 1 + i = k + (i + 1) by omega] at this
    exact this
theorem region_fills {P : Program} {ops : Array Oper} {Q : Exit → Act → World → Prop} {a0 : Act} {id : Nat} {W : World} (fl : List Fill) (Z : Array Value) (T : TypeId) (Vl : List (World → Value → Prop)) (yv : Nat → Option Bool) (D : List (Nat × Option Tmp)) (G : List Nat)
    (hm : P.follows .mixedOrders = true) (hok : regionOk ops a0.tmps.size = true) (hD : (List.range ops.size).map (fun i => (i, dstOf ops i)) = D) (hG : (ops.all fun o => match o.guard with | none => true | some (j, _) => G.contains j) = true) (hfl : fillsOk ops fl = true)
    (hyv : ∀ j ∈ G, ∀ w v, Vat Vl j w v → boolOf v = yv j)
    (hst : StabX W.heap.size (.cells Z T (0, 0)) Vl) (hVt : ∀ f ∈ fl, (∀ w v, Vat Vl f.1 w v) ∧ ∀ w v, Vat Vl f.2.1 w v) (hagg : ∀ f ∈ fl, ∀ w v, Vat Vl f.2.2 w v → ∃ cs, v = .agg cs)
    (hop : HopXAll P ops a0 yv W fl Z T Vl 0 ops.toList)
    (hend : ∀ (vs : Nat → Value) w, Below W.heap.size W w → (∀ i, i < ops.size → Vat Vl i w (vs i)) → (∀ f ∈ fl, ∃ g cs, vs f.1 = .pointer (some ⟨g, 0, none⟩) ∧ W.heap.size ≤ g ∧ vs f.2.2 = .agg cs ∧ w.heap[g]? = some (.cells cs T (0, 0))) → (∀ f ∈ fl, ∀ f' ∈ fl, f.1 ≠ f'.1 → vs f.1 ≠ vs f'.1) → Q .normal (putAll vs D a0) w) : (Code.region id ops true).wp P Q a0 W := by
  have hs := fun i => StabX.at_ Vl i hst
  let FI : (Nat → Bool) → (Nat → Value) → World → Fill → Prop := fun L vs w f => L f.1 = true → ∃ g, vs f.1 = .pointer (some ⟨g, 0, none⟩) ∧ W.heap.size ≤ g ∧ g < w.heap.size ∧ (L f.2.1 = true → ∃ cs, vs f.2.2 = .agg cs ∧ w.heap[g]? = some (.cells cs T (0, 0))) ∧ (L f.2.1 = false → w.heap[g]? = some (.cells Z T (0, 0)))
  let I : (Nat → Bool) → (Nat → Value) → World → Prop := fun L vs w => Below W.heap.size W w ∧ (∀ i, L i = true → Vat Vl i w (vs i)) ∧ (∀ f ∈ fl, FI L vs w f) ∧ ∀ f ∈ fl, ∀ f' ∈ fl, f.1 ≠ f'.1 → L f.1 = true → L f'.1 = true → vs f.1 ≠ vs f'.1
  refine region_inv I yv D hm hok hD ?_ ⟨below_drew (Below.refl _ _), (fun i h => by cases h), (fun f _ h => by cases h), fun f _ f' _ _ h => by cases h⟩ ?_ ?_
  · intro i o j b ho hgd L vs w hI hL
    refine hyv j ?_ w _ (hI.2.1 j hL)
    rw [Array.all_eq_true'] at hG
    have := hG o (Array.mem_of_getElem? ho)
    rw [hgd] at this
    exact List.contains_iff_mem.1 this
  · intro i o ho L vs w hLi hcl hdep hI
    obtain ⟨hB, hV, hF, hNe⟩ := hI
    have H := HopXAll.at_ ops.toList 0 i o hop (by rw [Array.getElem?_toList]; exact ho)
    rw [Nat.zero_add] at H
    have hVd : ∀ j, depOn o j = true → Vat Vl j w (vs j) := fun j hj => hV j (hdep j hj)
    have hWle : W.heap.size ≤ w.heap.size := hB.size
    -- a step that only adds memory, of an operation that is no part of a fill but maybe its value
    have grow : ∀ v w', (∀ f ∈ fl, f.1 ≠ i ∧ f.2.1 ≠ i) → Below w.heap.size w w' → Vat Vl i w' v → I (fun k => if k = i then true else L k) (fun k => if k = i then v else vs k) w' := by
      intro v w' hn hb hv
      refine ⟨hB.trans (hb.mono hWle), fun k hk => ?_, fun f hf hL1 => ?_, fun f hf f' hf' hne h1 h2 => ?_⟩
      · by_cases e : k = i
        · subst e; simpa using hv
        · simp only [e, if_false] at hk ⊢
          exact hs k (.cells Z T (0, 0)) w w' _ (Fills.of_below hb) (hV k hk)
      · have hn1 := (hn f hf).1
        have hn2 := (hn f hf).2
        simp only [hn1, hn2, if_false] at hL1 ⊢
        obtain ⟨g, g1, g2, g3, g4, g5⟩ := hF f hf hL1
        refine ⟨g, g1, g2, Nat.lt_of_lt_of_le g3 hb.size, fun h => ?_, fun h => (hb.block g g3).trans (g5 h)⟩
        obtain ⟨cs, k1, k2⟩ := g4 h
        have hne : f.2.2 ≠ i := by
          intro e
          have F := fillAt hfl hf
          obtain ⟨o', ho'⟩ : ∃ o', ops[f.2.1]? = some o' := ⟨_, Array.getElem?_eq_getElem F.lt.2⟩
          have := hcl f.2.1 o' ho' h f.2.2 (F.dep o' ho').2.1
          rw [e, hLi] at this; cases this
        simp only [hne, if_false]
        exact ⟨cs, k1, (hb.block g g3).trans k2⟩
      · simp only [(hn f hf).1, (hn f' hf').1, if_false] at h1 h2 ⊢
        exact hNe f hf f' hf' hne h1 h2
    unfold HopX at H
    cases h1 : fl.find? (fun f => f.2.1 == i) with
    | some f =>
      rw [h1] at H
      have hf := List.mem_of_find?_eq_some h1
      have hfi : f.2.1 = i := by have := List.find?_some h1; simpa using this
      have F := fillAt hfl hf
      have hd := F.dep o (by rw [hfi]; exact ho)
      have hw : wants yv o = true := by unfold wants; rw [hd.2.2]
      rw [if_pos hw]
      obtain ⟨g, g1, g2, g3, _, g5⟩ := hF f hf (hdep _ hd.1)
      have g6 := g5 (by rw [hfi]; exact hLi)
      obtain ⟨cs, hcs⟩ := hagg f hf w _ (hV _ (hdep _ hd.2.1))
      have H1 := H vs w g Z cs hB hVd g1 hcs g6 rfl
      have hfill : Fills W.heap.size (.cells Z T (0, 0)) (.cells cs T (0, 0)) w (w.setRow g cs) := ⟨⟨rfl, rfl, rfl, by simp [World.setRow], fun k hk => by omega⟩, fun k hk => by
        by_cases e : k = g
        · subst e
          exact .inr ⟨g2, g6, setRow_heap _ _ _ _ _ _ g6⟩
        · exact .inl (setRow_other _ _ _ _ e)⟩
      have fin : ∀ v w', w' = w.setRow g cs → I (fun k => if k = i then true else L k) (fun k => if k = i then v else vs k) w' := by
        rintro v w' rfl
        refine ⟨⟨hB.os, hB.tape, hB.output, Nat.le_trans hB.size (by simp [World.setRow]), fun k hk => (setRow_other _ _ _ _ (by omega)).trans (hB.block k hk)⟩, fun k hk => ?_, fun f' hf' hL1 => ?_, fun f' hf' f2 hf2 hne h1 h2 => ?_⟩
        · by_cases e : k = i
          · subst e; rw [← hfi]; exact (hVt f hf).2 _ _
          · simp only [e, if_false] at hk ⊢
            exact hs k _ w _ _ hfill (hV k hk)
        · have F' := fillAt hfl hf'
          have hn1 : f'.1 ≠ i := fun e => (F'.two f hf).2.2.1 (by rw [e, hfi])
          have hn3 : f'.2.2 ≠ i := fun e => (F.two f' hf').2.2.2.2 (by rw [e, hfi])
          simp only [hn1, hn3, if_false] at hL1 ⊢
          obtain ⟨g', a1, a2, a3, a4, a5⟩ := hF f' hf' hL1
          by_cases e : f'.2.1 = i
          · have hff : f = f' := (F.two f' hf').2.1.1 ((F.two f' hf').1.2 (by rw [hfi, e]))
            subst hff
            have hgg : g' = g := by rw [g1] at a1; injection a1 with a1; injection a1 with a1; injection a1 with a1; exact a1.symm
            subst hgg
            simp only [e, if_true]
            refine ⟨g', a1, a2, by simp [World.setRow]; exact a3, fun _ => ⟨cs, hcs, setRow_heap _ _ _ _ _ _ g6⟩, (fun h => by cases h)⟩
          · simp only [e, if_false]
            have hgg : g' ≠ g := by
              intro e2
              subst e2
              have hne : f'.1 ≠ f.1 := fun e3 => e (by have := (F'.two f hf).1.1 e3; rw [this, hfi])
              exact hNe f' hf' f hf hne hL1 (hdep _ hd.1) (by rw [a1, g1])
            refine ⟨g', a1, a2, by simp [World.setRow]; exact a3, fun h => ?_, fun h => (setRow_other _ _ _ _ hgg).trans (a5 h)⟩
            obtain ⟨cs', b1, b2⟩ := a4 h
            exact ⟨cs', b1, (setRow_other _ _ _ _ hgg).trans b2⟩
        · have hn1 : f'.1 ≠ i := fun e => ((fillAt hfl hf').two f hf).2.2.1 (by rw [e, hfi])
          have hn2 : f2.1 ≠ i := fun e => ((fillAt hfl hf2).two f hf).2.2.1 (by rw [e, hfi])
          simp only [hn1, hn2, if_false] at h1 h2 ⊢
          exact hNe f' hf' f2 hf2 hne h1 h2
      unfold runs at H1 ⊢
      split at H1 <;> first | exact fin _ _ H1 | exact Calls.mono H1 (fun e w'' ⟨v, he, hk⟩ => ⟨v, he, fin _ _ hk⟩) | exact H1.elim
    | none =>
      rw [h1] at H
      have hno2 : ∀ f ∈ fl, f.2.1 ≠ i := fun f hf e => by have := List.find?_eq_none.1 h1 f hf; simp [e] at this
      cases h2 : fl.find? (fun f => f.1 == i) with
      | some f =>
        rw [h2] at H
        have hf := List.mem_of_find?_eq_some h2
        have hfi : f.1 = i := by have := List.find?_some h2; simpa using this
        have F := fillAt hfl hf
        have hw : wants yv o = true := by unfold wants; rw [F.free o (by rw [hfi]; exact ho)]
        rw [if_pos hw]
        have H1 := H vs w
        have fin : ∀ v w', (v = .pointer (some ⟨w.heap.size, 0, none⟩) ∧ w' = w.alloc (.cells Z T)) → I (fun k => if k = i then true else L k) (fun k => if k = i then v else vs k) w' := by
          rintro v w' ⟨rfl, rfl⟩
          have hb := below_alloc (Below.refl w.heap.size w) (.cells Z T)
          refine ⟨hB.trans (hb.mono hWle), fun k hk => ?_, fun f' hf' hL1 => ?_, fun f' hf' f2 hf2 hne h1 h2 => ?_⟩
          · by_cases e : k = i
            · subst e; rw [← hfi]; exact (hVt f hf).1 _ _
            · simp only [e, if_false] at hk ⊢
              exact hs k (.cells Z T (0, 0)) w _ _ (Fills.of_below hb) (hV k hk)
          · have hn2 := hno2 f' hf'
            have hn3 : f'.2.2 ≠ i := fun e => (F.two f' hf').2.2.2.1 (by rw [e, hfi])
            simp only [hn2, hn3, if_false] at hL1 ⊢
            by_cases e : f'.1 = i
            · have hff : f = f' := (F.two f' hf').2.1.1 (by rw [hfi, e])
              subst hff
              have hLs : L f.2.1 = false := by
                cases hl : L f.2.1 with
                | false => rfl
                | true =>
                  obtain ⟨o', ho'⟩ : ∃ o', ops[f.2.1]? = some o' := ⟨_, Array.getElem?_eq_getElem F.lt.2⟩
                  have := hcl f.2.1 o' ho' hl f.1 (F.dep o' ho').1
                  rw [hfi, hLi] at this; cases this
              simp only [e, if_true]
              exact ⟨w.heap.size, rfl, hWle, by simp, (fun h => by rw [hLs] at h; cases h), fun _ => blk_new _ _⟩
            · simp only [e, if_false] at hL1 ⊢
              obtain ⟨g', a1, a2, a3, a4, a5⟩ := hF f' hf' hL1
              refine ⟨g', a1, a2, Nat.lt_of_lt_of_le a3 hb.size, fun h => ?_, fun h => (hb.block g' a3).trans (a5 h)⟩
              obtain ⟨cs', b1, b2⟩ := a4 h
              exact ⟨cs', b1, (hb.block g' a3).trans b2⟩
          · by_cases e : f'.1 = i
            · by_cases e2 : f2.1 = i
              · exact absurd (e.trans e2.symm) hne
              · simp only [e, e2, if_true, if_false] at h2 ⊢
                obtain ⟨g', a1, a2, a3, _⟩ := hF f2 hf2 h2
                rw [a1]
                intro e3
                injection e3 with e3; injection e3 with e3; injection e3 with e3
                omega
            · by_cases e2 : f2.1 = i
              · simp only [e, e2, if_true, if_false] at h1 ⊢
                obtain ⟨g', a1, a2, a3, _⟩ := hF f' hf' h1
                rw [a1]
                intro e3
                injection e3 with e3; injection e3 with e3; injection e3 with e3
                omega
              · simp only [e, e2, if_false] at h1 h2 ⊢
                exact hNe f' hf' f2 hf2 hne h1 h2
        unfold runs at H1 ⊢
        split at H1 <;> first | exact fin _ _ H1 | exact Calls.mono H1 (fun e w'' ⟨v, he, hk⟩ => ⟨v, he, fin _ _ hk⟩) | exact H1.elim
      | none =>
        rw [h2] at H
        have hno1 : ∀ f ∈ fl, f.1 ≠ i := fun f hf e => by have := List.find?_eq_none.1 h2 f hf; simp [e] at this
        have H1 := H vs w hB hVd
        by_cases hw : wants yv o = true
        · rw [if_pos hw] at H1 ⊢
          have fin : ∀ v w', (Below w.heap.size w w' ∧ Vat Vl i w' v) → I (fun k => if k = i then true else L k) (fun k => if k = i then v else vs k) w' := fun v w' h => grow v w' (fun f hf => ⟨hno1 f hf, hno2 f hf⟩) h.1 h.2
          unfold runs at H1 ⊢
          split at H1 <;> first | exact fin _ _ H1 | exact Calls.mono H1 (fun e w'' ⟨v, he, hk⟩ => ⟨v, he, fin _ _ hk⟩) | exact H1.elim
        · rw [if_neg hw] at H1 ⊢
          exact grow undef w (fun f hf => ⟨hno1 f hf, hno2 f hf⟩) (Below.refl _ _) H1
  · intro L vs w hall hI
    obtain ⟨hB, hV, hF, hNe⟩ := hI
    refine hend vs w hB (fun i hi => hV i (hall i hi)) (fun f hf => ?_) (fun f hf f' hf' hne => hNe f hf f' hf' hne (hall _ (fillAt hfl hf).lt.1) (hall _ (fillAt hfl hf').lt.1))
    have F := fillAt hfl hf
    obtain ⟨g, g1, g2, _, g4, _⟩ := hF f hf (hall _ F.lt.1)
    obtain ⟨cs, k1, k2⟩ := g4 (hall _ F.lt.2)
    exact ⟨g, cs, g1, g2, k1, k2⟩
end Go.Proofs.Yticpjidcgaaldaa

namespace Go.Proofs.Yticpjidcgaaldaa
open Go.RowKit Go.Proofs.YticpjidcgaaldaaW.PrintWords Go.Proofs.YticpjidcgaaldaaW.PrintLast Go.Proofs.YticpjidcgaaldaaW.PrintMore
set_option linter.unusedVariables false
set_option linter.unusedSimpArgs false

theorem Cur.set {cur : Array Value} {k i : Nat} {f : Nat → S59} (h : Cur cur k f) (hi : i < k) (x : S59) : Cur ((cur.setIfInBounds (2 * i) (.int .i32 x.f0)).setIfInBounds (2 * i + 1) (.int .u32 x.f1)) k (putF f i x) := by
  intro j hj
  obtain ⟨h0, h1⟩ := h j hj
  have hlt : 2 * i < cur.size := (Array.getElem?_eq_some_iff.1 (h i hi).1).1
  have hlt1 : 2 * i + 1 < cur.size := (Array.getElem?_eq_some_iff.1 (h i hi).2).1
  unfold putF
  by_cases e : j = i
  · subst e
    rw [if_pos rfl]
    exact ⟨by rw [Array.getElem?_setIfInBounds_ne (by omega), Array.getElem?_setIfInBounds_self_of_lt hlt], by rw [Array.getElem?_setIfInBounds_self_of_lt (by simp; exact hlt1)]⟩
  · rw [if_neg e]
    exact ⟨by rw [Array.getElem?_setIfInBounds_ne (by omega), Array.getElem?_setIfInBounds_ne (by omega)]; exact h0, by rw [Array.getElem?_setIfInBounds_ne (by omega), Array.getElem?_setIfInBounds_ne (by omega)]; exact h1⟩
end Go.Proofs.Yticpjidcgaaldaa

namespace Go.Proofs.Yticpjidcgaaldaa
open Go.RowKit Go.Proofs.YticpjidcgaaldaaW.PrintWords Go.Proofs.YticpjidcgaaldaaW.PrintLast Go.Proofs.YticpjidcgaaldaaW.PrintMore
set_option linter.unusedVariables false
set_option linter.unusedSimpArgs false

theorem eye_lo {P : Program} (k kl : IntKind) (t e bytes : Nat) (ht : P.underlying t = some (.slice e)) (hinfo : (P.info? e).map (fun i => (i.zero, i.size, i.bytes)) = some (some (.int k 0), 1, bytes)) (A : Option Addr) (n c j : Nat) (hj : j ≤ n) (hc : n ≤ c) :
    ∃ A' : Option Addr, (∀ W : World, (Instr.slice t (.slice A n c) (some (.int kl (j : Int))) none none).run P W = .ok (.slice A' (n - j) (c - j)) W) ∧
      (∀ (w : World) (xs : List Int), (Kd.int k).C w A n xs → (Kd.int k).C w A' (n - j) (xs.drop j)) ∧ ∀ ad', A' = some ad' → ∃ ad, A = some ad ∧ ad'.block = ad.block := by
  obtain ⟨i0, hi, hzz⟩ := Option.map_eq_some_iff.1 hinfo
  simp only [Prod.mk.injEq] at hzz
  have hel : P.elem t = e := by simp [Program.elem, ht]
  have hu : P.underlying t = some (.slice (P.elem t)) := by rw [hel]; exact ht
  refine ⟨if c = j then A else A.map (·.add j), fun W => ?_, fun w xs h => ?_, fun ad' h => ?_⟩
  · rw [run_slice_l W t A n c hu kl (j : Int) (Int.natCast_nonneg _) (by omega), hel]
    simp [sizeOf, typeInfo, hi, hzz.2.1, sliced, Result.andThen]
  · obtain rfl := h.1
    exact Kd.C_of_reads ((Kd.reads_of_C (d := (0 : Int)) h).drop_ j hj hc)
  · split at h
    · exact ⟨ad', h, rfl⟩
    · obtain ⟨ad, h1, rfl⟩ := Option.map_eq_some_iff.1 h
      exact ⟨ad, h1, by rw [add_block]⟩
theorem eye_hi {P : Program} (k kh km : IntKind) (t e bytes : Nat) (ht : P.underlying t = some (.slice e)) (hinfo : (P.info? e).map (fun i => (i.zero, i.size, i.bytes)) = some (some (.int k 0), 1, bytes)) (A : Option Addr) (n c j : Nat) (hj : j ≤ n) (hc : n ≤ c) :
    (∀ W : World, (Instr.slice t (.slice A n c) none (some (.int kh (j : Int))) (some (.int km (j : Int)))).run P W = .ok (.slice A j j) W) ∧
      (∀ (w : World) (xs : List Int), (Kd.int k).C w A n xs → (Kd.int k).C w A j (xs.take j)) := by
  obtain ⟨i0, hi, hzz⟩ := Option.map_eq_some_iff.1 hinfo
  simp only [Prod.mk.injEq] at hzz
  have hel : P.elem t = e := by simp [Program.elem, ht]
  have hu : P.underlying t = some (.slice (P.elem t)) := by rw [hel]; exact ht
  have ha : (A.map fun x => x.add 0) = A := by cases A <;> simp [Addr.add]
  refine ⟨fun W => ?_, fun w xs h => ?_⟩
  · rw [run_slice_hm W t A n c hu kh km (j : Int) (j : Int) (Int.natCast_nonneg _) (Int.le_refl _) (by omega), hel]
    simp [sizeOf, typeInfo, hi, hzz.2.1, sliced, Result.andThen, ha]
  · obtain rfl := h.1
    exact Kd.C_of_reads ((Kd.reads_of_C (d := (0 : Int)) h).take_ j hj)

def Ey (w : World) (g B : Nat) (l : List Int) (bad : Bool) : Prop := ∃ A n c, w.heap[g]? = some (.cells #[.slice A n c, .bool bad] 130 (0, 0)) ∧ (Kd.int .u8).C w A n l ∧ n ≤ c ∧ (∀ ad, A = some ad → ad.block ≠ g ∧ ad.block < B) ∧ g < B
def EyTo (w w' : World) (g B : Nat) (l : List Int) (bad : Bool) : Prop := Ey w' g B l bad ∧ KeepBut w w' g none ∧ Below g w w'
theorem eye_block (w w' : World) {A : Option Addr} {n : Nat} {l : List Int} (h : (Kd.int .u8).C w A n l) (hb : ∀ ad, A = some ad → w'.heap[ad.block]? = w.heap[ad.block]?) : (Kd.int .u8).C w' A n l := by
  refine ⟨h.1, h.2.1, fun hn => ?_⟩
  obtain ⟨ad, e, hj⟩ := h.2.2 hn
  refine ⟨ad, e, fun j p hp => ?_⟩
  obtain ⟨cs, h1, h2, h3⟩ := hj j p hp
  refine ⟨cs, h1, h2, fun i u hu => ?_⟩
  have := h3 i u hu
  have hbl : ∀ k, (ad.add k).block = ad.block := fun k => by rw [add_block]
  unfold World.cell? at this ⊢
  rw [hbl] at this ⊢
  rw [hb ad e]
  exact this
theorem Ey.below {w w' : World} {g B : Nat} {l : List Int} {bad : Bool} (h : Ey w g B l bad) (hb : Below B w w') (hB : B ≤ w.heap.size) : Ey w' g B l bad := by
  obtain ⟨A, n, c, h1, h2, h3, h4, h5⟩ := h
  exact ⟨A, n, c, (hb.block g h5).trans h1, eye_block w w' h2 (fun ad e => hb.block _ (h4 ad e).2), h3, h4, h5⟩
theorem Ey.lt {w : World} {g B : Nat} {l : List Int} {bad : Bool} (h : Ey w g B l bad) : g < w.heap.size ∧ l.length ≤ 9223372036854775807 := by
  obtain ⟨A, n, c, h1, h2, h3, h4, h5⟩ := h
  exact ⟨blk_lt h1, by rw [h2.1]; exact h2.2.1⟩
theorem EyTo.trans {w w1 w2 : World} {g B : Nat} {l1 l2 : List Int} {b1 b2 : Bool} (h : EyTo w w1 g B l1 b1) (h' : EyTo w1 w2 g B l2 b2) : EyTo w w2 g B l2 b2 := ⟨h'.1, h.2.1.trans h'.2.1 (.inl rfl), h.2.2.trans h'.2.2⟩
theorem EyTo.refl {w : World} {g B : Nat} {l : List Int} {b : Bool} (h : Ey w g B l b) : EyTo w w g B l b := ⟨h, KeepBut.refl _ _ _, Below.refl _ _⟩

set_option maxHeartbeats 1000000 in
theorem read_any (A : Option Addr) (n c : Nat) (q : List Int) (w : World) (hq : (Kd.int .u8).C w A n q) (hn : n ≤ 100000000) :
    Calls Try.prog 43 #[.slice A n c] w fun e w' => ∃ g, e = .returned (.pointer (some ⟨g, 0, none⟩)) ∧ w.heap.size ≤ g ∧ Ey w' g w'.heap.size q false ∧ Below w.heap.size w w' := by
  have KEY := Aside0.mk (clone_any A n c q w hq (by omega))
  clear hq hn
  go_enter Try.func43, Try.ntmps43
  go_wp2_with fail
  refine KEY.out.mono ?_
  rintro e w1 ⟨vo, rfl, h1, h2⟩
  obtain ⟨Q, d, hv⟩ := Kd.R_slice h1
  subst hv
  obtain ⟨r1, r2, r3⟩ := Rn_C h1
  have HLT := Aside0.mk (Kd.R_lt h1)
  have HC := Aside0.mk r3
  have HD := Aside0.mk r2
  have H2 := Aside0.mk h2
  generalize q.length = m at *
  clear h1 h2 KEY r1 r2 r3
  go_wp2_with fail
  go_ret
  refine ⟨w1.heap.size, rfl, H2.out.size, ⟨Q, m, d, blk_new _ _, Kd.C_alloc HC.out _, HD.out, fun ad e => ?_, by simp⟩, below_step H2.out (below_alloc (Below.refl _ _) _)⟩
  have := HLT.out ad.block (by rw [e]; rfl)
  simp
  omega

set_option maxHeartbeats 1000000 in
theorem wrong_any (g B : Nat) (l : List Int) (bad : Bool) (w : World) (hk : Ey w g B l bad) :
    Calls Try.prog 74 #[.pointer (some ⟨g, 0, none⟩)] w fun e w' => e = .returned (.bool bad) ∧ w' = w := by
  obtain ⟨A, n, c, h1, h2, h3, h4, h5⟩ := hk
  have c1 := blk_cell h1 1
  clear h1 h2 h3 h4 h5
  go_enter Try.func74, Try.ntmps74
  go_wp2_with fail
  go_ret
  exact ⟨rfl, rfl⟩
set_option maxHeartbeats 1000000 in
theorem efail_any (g B : Nat) (l : List Int) (bad : Bool) (w : World) (hk : Ey w g B l bad) :
    Calls Try.prog 83 #[.pointer (some ⟨g, 0, none⟩)] w fun e w' => e = .returned (.tuple #[]) ∧ EyTo w w' g B [] true := by
  obtain ⟨A, n, c, h1, h2, h3, h4, h5⟩ := hk
  have c0 := blk_cell h1 0
  have c1 := blk_cell h1 1
  have f0 := blk_frozen h1 0
  have f1 := blk_frozen h1 1
  have H1 := Aside0.mk h1
  have H5 := Aside0.mk h5
  clear h1 h2 h3 h4 h5
  go_enter Try.func83, Try.ntmps83
  go_wp2_with fail
  go_end0
  refine ⟨rfl, ⟨none, 0, 0, blk_set (blk_set H1.out 1 _) 0 _, Kd.C_nil _ _, Nat.le_refl _, ⟨(fun ad e => nomatch e), H5.out⟩⟩, ((KeepBut.refl w g none).set_ 1 _).set_ 0 _, ((Below.refl g w).setCell (Nat.le_refl _) _).setCell (Nat.le_refl _) _⟩
set_option maxRecDepth 100000 in
set_option maxHeartbeats 2000000 in
theorem take_no (g B : Nat) (l : List Int) (bad : Bool) (k : Nat) (w : World) (hk : Ey w g B l bad) (hb : bad = true ∨ l.length < k) :
    Calls Try.prog 73 #[.pointer (some ⟨g, 0, none⟩), .int .i64 k] w fun e w' => e = .returned (.slice none 0 0) ∧ EyTo w w' g B [] true := by
  have KEY := Aside0.mk (wrong_any g B l bad w hk)
  have KEY2 := Aside0.mk (efail_any g B l bad w hk)
  obtain ⟨A, n, c, h1, h2, h3, h4, h5⟩ := hk
  obtain rfl := h2.1
  have c0 := blk_cell h1 0
  have hc : bad = true ∨ (bad = false ∧ decide ((l.length : Int) < (k : Int)) = true ∧ decide (l.length < k) = true) := by
    cases bad
    · have hlk : l.length < k := by rcases hb with h | h; cases h; exact h
      exact .inr ⟨rfl, decide_eq_true (by omega), decide_eq_true hlk⟩
    · exact .inl rfl
  generalize l.length = m at *
  clear h1 h2 h3 h4 h5 hb
  rcases hc with rfl | ⟨rfl, hc, hc2⟩
  all_goals
    go_enter Try.func73, Try.ntmps73
    go_wp2_with fail
    refine KEY.out.mono ?_
    rintro e w1 ⟨rfl, rfl⟩
    clear KEY
    go_wp2_with fail
    refine KEY2.out.mono ?_
    rintro e w2 ⟨rfl, h⟩
    have H := Aside0.mk h
    clear h KEY2
    go_wp2_with fail
    go_ret
    exact ⟨rfl, H.out⟩
theorem ey_drop {w w' : World} {g B : Nat} {A' : Option Addr} {n c : Nat} {l : List Int} (h : w'.heap[g]? = some (.cells #[.slice A' n c, .bool false] 130 (0, 0))) (hC : (Kd.int .u8).C w' A' n l) (hc : n ≤ c) (hA : ∀ ad, A' = some ad → ad.block ≠ g ∧ ad.block < B) (hg : g < B) : Ey w' g B l false := ⟨A', n, c, h, hC, hc, hA, hg⟩

set_option maxRecDepth 100000 in
set_option maxHeartbeats 2000000 in
theorem take_ok (g B : Nat) (l : List Int) (k : Nat) (w : World) (hk : Ey w g B l false) (hl : k ≤ l.length) :
    Calls Try.prog 73 #[.pointer (some ⟨g, 0, none⟩), .int .i64 k] w fun e w' => ∃ A', e = .returned (.slice A' k k) ∧ (Kd.int .u8).C w' A' k (l.take k) ∧ EyTo w w' g B (l.drop k) false := by
  have KEY := Aside0.mk (wrong_any g B l false w hk)
  obtain ⟨A, n, c, h1, h2, h3, h4, h5⟩ := hk
  obtain rfl := h2.1
  have c0 := blk_cell h1 0
  have f0 := blk_frozen h1 0
  obtain ⟨A', a1, a2, a3⟩ := eye_lo (P := Try.prog) .u8 .i64 23 5 1 Try.underlying23 np_info A l.length c k hl h3
  obtain ⟨b1, b2⟩ := eye_hi (P := Try.prog) .u8 .i64 .i64 23 5 1 Try.underlying23 np_info A l.length c k hl h3
  have hkeep := (KeepBut.refl w g none).set_ 0 (.slice A' (l.length - k) (c - k))
  have H1 : Aside0 ((Kd.int .u8).C (w.setCell ⟨g, 0, none⟩ (.slice A' (l.length - k) (c - k))) A k (l.take k)) := ⟨b2 _ _ (Kd.C_keep (0 : Int) h2 hkeep (fun ad e _ => (h4 ad e).1))⟩
  have H2 : Aside0 (EyTo w (w.setCell ⟨g, 0, none⟩ (.slice A' (l.length - k) (c - k))) g B (l.drop k) false) := by
    refine ⟨⟨ey_drop (w := w) (blk_set h1 0 _) (a2 _ _ (Kd.C_keep (0 : Int) h2 hkeep (fun ad e _ => (h4 ad e).1))) (by omega) (fun ad e => ?_) h5, hkeep, (Below.refl g w).setCell (Nat.le_refl _) _⟩⟩
    obtain ⟨ad0, e0, hbk⟩ := a3 ad e
    rw [hbk]
    exact h4 ad0 e0
  have d1 : decide ((l.length : Int) < (k : Int)) = false := decide_eq_false (by omega)
  have d2 : decide (l.length < k) = false := decide_eq_false (by omega)
  have b1' := b1 w
  have a1' := a1 w
  generalize l.length = m at *
  generalize l.take k = lt at *
  generalize l.drop k = ld at *
  clear h1 h2 h3 h4 h5 hl a2 a3 b2 hkeep a1 b1
  go_enter Try.func73, Try.ntmps73
  go_wp2_with fail
  refine KEY.out.mono ?_
  rintro e w1 ⟨rfl, rfl⟩
  clear KEY
  go_wp2_with fail
  go_ret
  exact ⟨_, rfl, H1.out, H2.out⟩

theorem add0 (ad : Addr) : ad.add 0 = ad := by cases ad; simp [Addr.add]
def eByte (l : List Int) (bad : Bool) : Int × List Int × Bool := if bad = true ∨ l.length < 1 then (0, [], true) else (l.headD 0, l.drop 1, false)
theorem nz_slice (A : Option Addr) (n c : Nat) (w : World) : (binOp .neq 23 (.slice A n c) (.slice none 0 0)).run Try.prog w = .ok (.bool (!A.isNone)) w := run_neq_slice_nil_any w _ _ _ _ _ _ _ Try.underlying23

set_option maxHeartbeats 1000000 in
theorem ebyte_any (g B : Nat) (l : List Int) (bad : Bool) (w : World) (hk : Ey w g B l bad) :
    Calls Try.prog 44 #[.pointer (some ⟨g, 0, none⟩)] w fun e w' => e = .returned (.int .u8 (eByte l bad).1) ∧ EyTo w w' g B (eByte l bad).2.1 (eByte l bad).2.2 := by
  unfold eByte
  by_cases hc : bad = true ∨ l.length < 1
  · rw [if_pos hc]
    have KEY := Aside0.mk (take_no g B l bad 1 w hk hc)
    have hz := fun w => nz_slice none 0 0 w
    clear hk hc
    go_enter Try.func44, Try.ntmps44
    go_wp2_with fail
    refine KEY.out.mono ?_
    rintro e w1 ⟨rfl, h⟩
    have H := Aside0.mk h
    clear h KEY
    go_wp2_with fail
    go_ret
    exact ⟨rfl, H.out⟩
  · rw [if_neg hc]
    have hb : bad = false := by cases bad; rfl; exact absurd (.inl rfl) hc
    subst hb
    have hl : 1 ≤ l.length := by rcases Nat.lt_or_ge l.length 1 with h | h; exact absurd (.inr h) hc; exact h
    have KEY := Aside0.mk (take_ok g B l 1 w hk hl)
    have hz := fun a w => nz_slice (some a) 1 1 w
    have HL : Aside0 (l.take 1 = [l.headD 0]) := ⟨by cases l with | nil => simp at hl | cons x t => rfl⟩
    clear hk hc hl
    generalize l.headD 0 = x at *
    generalize l.drop 1 = ld at *
    go_enter Try.func44, Try.ntmps44
    go_wp2_with fail
    refine KEY.out.mono ?_
    rintro e w1 ⟨A', rfl, hC, h⟩
    rw [HL.out] at hC
    obtain ⟨ad, rfl, hx⟩ := int_at hC 0 (by simp)
    rw [List.getElem_cons_zero, add0] at hx
    have H := Aside0.mk h
    clear h KEY hC
    go_wp2_with fail
    go_ret
    exact ⟨rfl, H.out⟩

set_option maxHeartbeats 1000000 in
theorem done_any (g B : Nat) (l : List Int) (bad : Bool) (w : World) (hk : Ey w g B l bad) :
    Calls Try.prog 47 #[.pointer (some ⟨g, 0, none⟩)] w fun e w' => e = .returned (.int .i64 (if bad = true ∨ 0 < l.length then 2 else 0)) ∧ w' = w := by
  have KEY := Aside0.mk (wrong_any g B l bad w hk)
  obtain ⟨A, n, c, h1, h2, h3, h4, h5⟩ := hk
  obtain rfl := h2.1
  have c0 := blk_cell h1 0
  generalize l.length = m at *
  clear h1 h2 h3 h4 h5
  have hc : (bad = true ∧ (if bad = true ∨ 0 < m then (2 : Int) else 0) = 2) ∨ (bad = false ∧ decide ((0 : Int) < (m : Int)) = true ∧ decide (0 < m) = true ∧ (if bad = true ∨ 0 < m then (2 : Int) else 0) = 2) ∨ (bad = false ∧ decide ((0 : Int) < (m : Int)) = false ∧ decide (0 < m) = false ∧ (if bad = true ∨ 0 < m then (2 : Int) else 0) = 0) := by
    cases bad
    · rcases Nat.eq_zero_or_pos m with h | h
      · subst h; exact .inr (.inr ⟨rfl, by decide, by decide, by simp⟩)
      · exact .inr (.inl ⟨rfl, decide_eq_true (by omega), decide_eq_true h, by simp [h]⟩)
    · exact .inl ⟨rfl, by simp⟩
  rcases hc with ⟨rfl, hv⟩ | ⟨rfl, d1, d2, hv⟩ | ⟨rfl, d1, d2, hv⟩
  all_goals
    rw [hv]
    clear hv
    go_enter Try.func47, Try.ntmps47
    go_wp2_with fail
    refine KEY.out.mono ?_
    rintro e w1 ⟨rfl, rfl⟩
    clear KEY
    go_wp2_with fail
    go_ret
    exact ⟨rfl, rfl⟩
end Go.Proofs.Yticpjidcgaaldaa

namespace Go.Proofs.Yticpjidcgaaldaa
open Go.RowKit Go.Proofs.YticpjidcgaaldaaW.PrintWords Go.Proofs.YticpjidcgaaldaaW.PrintLast Go.Proofs.YticpjidcgaaldaaW.PrintMore
set_option linter.unusedVariables false
set_option linter.unusedSimpArgs false

def leN : List Int → Int
  | [] => 0
  | b :: l => b + 256 * leN l
def eFix (k : Nat) (l : List Int) (bad : Bool) : Int × List Int × Bool := if bad = true ∨ l.length < k then (0, [], true) else (leN (l.take k), l.drop k, false)

theorem EyTo.drew {w w1 : World} {g B : Nat} {l : List Int} {b : Bool} (h : EyTo w w1 g B l b) : EyTo w w1.drew g B l b :=
  ⟨h.1, h.2.1, h.2.2.drew⟩
theorem or_at (i x y : Nat) (hx : x < 2 ^ i) : x ||| y * 2 ^ i = x + 2 ^ i * y := by
  rw [Nat.or_comm, Nat.mul_comm, ← Nat.two_pow_add_eq_or_of_lt hx, Nat.add_comm]
theorem half_v (x y : Nat) (hx : x < 256) (hy : y < 256) : bits .or .u16 (x : Int) ((y : Int) * 256) = ((x + 256 * y : Nat) : Int) := by
  rw [show (y : Int) * 256 = ((y * 2 ^ 8 : Nat) : Int) by omega, u16_or_nat _ _ (by omega) (by omega), or_at 8 x y (by omega)]
theorem word_v (x y z t : Nat) (hx : x < 256) (hy : y < 256) (hz : z < 256) (ht : t < 256) : bits .or .u32 (bits .or .u32 (bits .or .u32 (x : Int) ((y : Int) * 256)) ((z : Int) * 65536)) ((t : Int) * 16777216) = ((x + 256 * (y + 256 * (z + 256 * t)) : Nat) : Int) := by
  rw [show (y : Int) * 256 = ((y * 2 ^ 8 : Nat) : Int) by omega, u32_or_nat _ _ (by omega) (by omega), or_at 8 x y (by omega),
    show (z : Int) * 65536 = ((z * 2 ^ 16 : Nat) : Int) by omega, u32_or_nat _ _ (by omega) (by omega), or_at 16 _ z (by omega),
    show (t : Int) * 16777216 = ((t * 2 ^ 24 : Nat) : Int) by omega, u32_or_nat _ _ (by omega) (by omega), or_at 24 _ t (by omega)]
  omega

set_option maxHeartbeats 1000000 in
theorem ehalf_any (g B : Nat) (l : List Int) (bad : Bool) (w : World) (hk : Ey w g B l bad) (hb : Bytes l) :
    Calls Try.prog 64 #[.pointer (some ⟨g, 0, none⟩)] w fun e w' => e = .returned (.int .u16 (eFix 2 l bad).1) ∧ EyTo w w' g B (eFix 2 l bad).2.1 (eFix 2 l bad).2.2 := by
  unfold eFix
  by_cases hc : bad = true ∨ l.length < 2
  · rw [if_pos hc]
    have KEY := Aside0.mk (take_no g B l bad 2 w hk hc)
    have hz := fun w => nz_slice none 0 0 w
    clear hk hc hb
    go_enter Try.func64, Try.ntmps64
    go_wp2_with fail
    refine KEY.out.mono ?_
    rintro e w1 ⟨rfl, h⟩
    have H := Aside0.mk h
    clear h KEY
    go_wp2_with fail
    go_ret
    exact ⟨rfl, H.out⟩
  · rw [if_neg hc]
    have hbb : bad = false := by cases bad; rfl; exact absurd (.inl rfl) hc
    subst hbb
    have hl : 2 ≤ l.length := by rcases Nat.lt_or_ge l.length 2 with h | h; exact absurd (.inr h) hc; exact h
    have KEY := Aside0.mk (take_ok g B l 2 w hk hl)
    have hz := fun a w => nz_slice (some a) 2 2 w
    obtain ⟨x, y, hxy, hx, hy⟩ : ∃ x y : Nat, l.take 2 = [(x : Int), (y : Int)] ∧ x < 256 ∧ y < 256 := by
      match l, hl, hb with
      | a :: b :: t, _, hb =>
        have h1 := hb a (by simp)
        have h2 := hb b (by simp)
        exact ⟨a.toNat, b.toNat, by simp; omega, by omega, by omega⟩
    have HL := Aside0.mk hxy
    have HV : Aside0 (leN (l.take 2) = ((x + 256 * y : Nat) : Int)) := ⟨by rw [hxy]; simp [leN]⟩
    rw [HV.out]
    have hx' : (x : Int) ≤ 255 := by omega
    have hy' : (y : Int) ≤ 255 := by omega
    have HE := Aside0.mk (half_v x y hx hy)
    clear hk hc hl hb hxy hx hy
    generalize l.drop 2 = ld at *
    go_enter Try.func64, Try.ntmps64
    go_wp2_with fail
    refine KEY.out.mono ?_
    rintro e w1 ⟨A', rfl, hC, h⟩
    rw [HL.out] at hC
    obtain ⟨ad, rfl, c0⟩ := int_at hC 0 (by simp)
    obtain ⟨ad', e', c1⟩ := int_at hC 1 (by simp)
    obtain rfl := Option.some.inj e'
    rw [List.getElem_cons_zero, add0] at c0
    rw [List.getElem_cons_succ, List.getElem_cons_zero, show ad.add 1 = ⟨ad.block, ad.off + 1, none⟩ from rfl] at c1
    have H := Aside0.mk h
    clear h KEY hC
    go_wp2_with fail
    go_region
    go_wp2_with fail
    rw [HE.out]
    go_ret
    exact ⟨rfl, H.out.drew⟩

set_option maxHeartbeats 1000000 in
theorem eword_any (g B : Nat) (l : List Int) (bad : Bool) (w : World) (hk : Ey w g B l bad) (hb : Bytes l) :
    Calls Try.prog 45 #[.pointer (some ⟨g, 0, none⟩)] w fun e w' => e = .returned (.int .u32 (eFix 4 l bad).1) ∧ EyTo w w' g B (eFix 4 l bad).2.1 (eFix 4 l bad).2.2 := by
  unfold eFix
  by_cases hc : bad = true ∨ l.length < 4
  · rw [if_pos hc]
    have KEY := Aside0.mk (take_no g B l bad 4 w hk hc)
    have hz := fun w => nz_slice none 0 0 w
    clear hk hc hb
    go_enter Try.func45, Try.ntmps45
    go_wp2_with fail
    refine KEY.out.mono ?_
    rintro e w1 ⟨rfl, h⟩
    have H := Aside0.mk h
    clear h KEY
    go_wp2_with fail
    go_ret
    exact ⟨rfl, H.out⟩
  · rw [if_neg hc]
    have hbb : bad = false := by cases bad; rfl; exact absurd (.inl rfl) hc
    subst hbb
    have hl : 4 ≤ l.length := by rcases Nat.lt_or_ge l.length 4 with h | h; exact absurd (.inr h) hc; exact h
    have KEY := Aside0.mk (take_ok g B l 4 w hk hl)
    have hz := fun a w => nz_slice (some a) 4 4 w
    obtain ⟨x, y, z, t, hxy, hx, hy, hz0, ht⟩ : ∃ x y z t : Nat, l.take 4 = [(x : Int), (y : Int), (z : Int), (t : Int)] ∧ x < 256 ∧ y < 256 ∧ z < 256 ∧ t < 256 := by
      match l, hl, hb with
      | a :: b :: c :: d :: t, _, hb =>
        have h1 := hb a (by simp)
        have h2 := hb b (by simp)
        have h3 := hb c (by simp)
        have h4 := hb d (by simp)
        exact ⟨a.toNat, b.toNat, c.toNat, d.toNat, by simp; omega, by omega, by omega, by omega, by omega⟩
    have HL := Aside0.mk hxy
    have HV : Aside0 (leN (l.take 4) = ((x + 256 * (y + 256 * (z + 256 * t)) : Nat) : Int)) := ⟨by rw [hxy]; simp [leN]⟩
    rw [HV.out]
    have hx' : (x : Int) ≤ 255 := by omega
    have hy' : (y : Int) ≤ 255 := by omega
    have hz' : (z : Int) ≤ 255 := by omega
    have ht' : (t : Int) ≤ 255 := by omega
    have HE := Aside0.mk (word_v x y z t hx hy hz0 ht)
    clear hk hc hl hb hxy hx hy hz0 ht
    generalize l.drop 4 = ld at *
    go_enter Try.func45, Try.ntmps45
    go_wp2_with fail
    refine KEY.out.mono ?_
    rintro e w1 ⟨A', rfl, hC, h⟩
    rw [HL.out] at hC
    obtain ⟨ad, rfl, c0⟩ := int_at hC 0 (by simp)
    obtain ⟨ad', e', c1⟩ := int_at hC 1 (by simp)
    obtain rfl := Option.some.inj e'
    obtain ⟨ad', e', c2⟩ := int_at hC 2 (by simp)
    obtain rfl := Option.some.inj e'
    obtain ⟨ad', e', c3⟩ := int_at hC 3 (by simp)
    obtain rfl := Option.some.inj e'
    rw [List.getElem_cons_zero, add0] at c0
    rw [List.getElem_cons_succ, List.getElem_cons_zero, show ad.add 1 = ⟨ad.block, ad.off + 1, none⟩ from rfl] at c1
    rw [List.getElem_cons_succ, List.getElem_cons_succ, List.getElem_cons_zero, show ad.add 2 = ⟨ad.block, ad.off + 2, none⟩ from rfl] at c2
    rw [List.getElem_cons_succ, List.getElem_cons_succ, List.getElem_cons_succ, List.getElem_cons_zero, show ad.add 3 = ⟨ad.block, ad.off + 3, none⟩ from rfl] at c3
    have H := Aside0.mk h
    clear h KEY hC
    go_wp2_with fail
    go_region
    go_wp2_with fail
    rw [HE.out]
    go_ret
    exact ⟨rfl, H.out.drew⟩
end Go.Proofs.Yticpjidcgaaldaa

namespace Go.Proofs.Yticpjidcgaaldaa
open Go.RowKit Go.Proofs.YticpjidcgaaldaaW.PrintWords Go.Proofs.YticpjidcgaaldaaW.PrintLast Go.Proofs.YticpjidcgaaldaaW.PrintMore
set_option linter.unusedVariables false
set_option linter.unusedSimpArgs false

def rowP (r : List Int) (i : Nat) : Int := (r.drop (9 * i)).headD 0
def rowC (r : List Int) (i : Nat) : S59 := ⟨wrap32 (leN ((r.drop (9 * i + 1)).take 4)), leN ((r.drop (9 * i + 5)).take 4)⟩
def pL (r : List Int) (k : Nat) : List Int := (List.range k).map (rowP r)
def cL (r : List Int) (k : Nat) : List S59 := (List.range k).map (rowC r)
theorem pL_succ (r : List Int) (k : Nat) : pL r (k + 1) = pL r k ++ [rowP r k] := by unfold pL; rw [List.range_succ, List.map_append]; rfl
theorem cL_succ (r : List Int) (k : Nat) : cL r (k + 1) = cL r k ++ [rowC r k] := by unfold cL; rw [List.range_succ, List.map_append]; rfl
theorem pL_len (r : List Int) (k : Nat) : (pL r k).length = k := by simp [pL]
theorem cL_len (r : List Int) (k : Nat) : (cL r k).length = k := by simp [cL]
def cntD (q : List Int) : Nat := ((q.drop 8).headD 0).toNat
def okD (q : List Int) : Bool := decide (9 ≤ q.length ∧ q.length = 9 + 9 * cntD q) && risB (-1) (pL (q.drop 9) (cntD q))
theorem leN_bd : ∀ {l : List Int}, Bytes l → 0 ≤ leN l ∧ leN l < 256 ^ l.length
  | [], _ => by simp [leN]
  | b :: l, h => by
    have h1 := h b List.mem_cons_self
    have h2 := leN_bd (l := l) (fun x hx => h x (List.mem_cons_of_mem _ hx))
    have : (256 : Int) ^ (l.length + 1) = 256 ^ l.length * 256 := by rw [Int.pow_succ]
    simp only [leN, List.length_cons]
    rw [this]
    omega
theorem leN4 {l : List Int} (h : Bytes l) : U32 (leN (l.take 4)) := by
  have h1 := leN_bd (h.take 4)
  have h2 : (256 : Int) ^ (l.take 4).length ≤ 4294967296 := by
    have : (l.take 4).length ≤ 4 := List.length_take_le _ _
    have h3 : ∀ k : Nat, k ≤ 4 → (256 : Int) ^ k ≤ 4294967296 := fun k hk => by
      match k, hk with
      | 0, _ => decide
      | 1, _ => decide
      | 2, _ => decide
      | 3, _ => decide
      | 4, _ => decide
    exact h3 _ this
  unfold U32; omega
theorem Bytes.head {l : List Int} (h : Bytes l) : 0 ≤ l.headD 0 ∧ l.headD 0 < 256 := by
  cases l with
  | nil => simp
  | cons a t => exact h a List.mem_cons_self
def EyP (q : List Int) (i : Nat) (l : List Int) (bad : Bool) (P : List Int) (C : List S59) : Prop :=
  P.length = i ∧ C.length = i ∧ Bytes l ∧ Bytes P ∧ ((bad = false ∧ l = q.drop (9 + 9 * i) ∧ 9 + 9 * i ≤ q.length ∧ P = pL (q.drop 9) i ∧ C = cL (q.drop 9) i) ∨ (bad = true ∧ l = [] ∧ q.length < 9 + 9 * i))
theorem eByte_b {l : List Int} {bad : Bool} (h : Bytes l) : (0 ≤ (eByte l bad).1 ∧ (eByte l bad).1 < 256) ∧ Bytes (eByte l bad).2.1 := by
  unfold eByte
  split
  · exact ⟨by simp, Bytes.nil⟩
  · exact ⟨h.head, h.drop 1⟩
theorem eFix_b {l : List Int} {bad : Bool} (k : Nat) (h : Bytes l) : Bytes (eFix k l bad).2.1 := by
  unfold eFix
  split
  · exact Bytes.nil
  · exact h.drop k
theorem eByte_bad (l : List Int) : eByte l true = (0, [], true) := by unfold eByte; rw [if_pos (.inl rfl)]
theorem eFix_bad (k : Nat) (l : List Int) : eFix k l true = (0, [], true) := by unfold eFix; rw [if_pos (.inl rfl)]
theorem eByte_good {l : List Int} (h : 1 ≤ l.length) : eByte l false = (l.headD 0, l.drop 1, false) := by unfold eByte; rw [if_neg (fun q => by rcases q with q | q; cases q; omega)]
theorem eByte_short {l : List Int} (h : l.length < 1) : eByte l false = (0, [], true) := by unfold eByte; rw [if_pos (.inr h)]
theorem eFix_good {k : Nat} {l : List Int} (h : k ≤ l.length) : eFix k l false = (leN (l.take k), l.drop k, false) := by unfold eFix; rw [if_neg (fun q => by rcases q with q | q; cases q; omega)]
theorem eFix_short {k : Nat} {l : List Int} (h : l.length < k) : eFix k l false = (0, [], true) := by unfold eFix; rw [if_pos (.inr h)]
theorem head_step {q : List Int} (hq : Bytes q) {t h n : Int} {l1 l2 l3 : List Int} {b1 b2 b3 : Bool} (e1 : eFix 4 q false = (t, l1, b1)) (e2 : eFix 4 l1 b1 = (h, l2, b2)) (e3 : eByte l2 b2 = (n, l3, b3)) :
    EyP q 0 l3 b3 [] [] ∧ 0 ≤ n ∧ n < 256 ∧ (9 ≤ q.length → t = leN (q.take 4) ∧ h = leN ((q.drop 4).take 4) ∧ n.toNat = cntD q) ∧ (q.length < 9 → n = 0) := by
  have hB3 : Bytes l3 ∧ 0 ≤ n ∧ n < 256 := by
    have h1 := eFix_b (bad := false) 4 hq
    rw [e1] at h1
    have h2 := eFix_b (bad := b1) 4 h1
    rw [e2] at h2
    have h3 := eByte_b (bad := b2) h2
    rw [e3] at h3
    exact ⟨h3.2, h3.1⟩
  by_cases h9 : 9 ≤ q.length
  · rw [eFix_good (by omega)] at e1
    simp only [Prod.mk.injEq] at e1
    obtain ⟨rfl, rfl, rfl⟩ := e1
    rw [eFix_good (by rw [List.length_drop]; omega), List.drop_drop] at e2
    simp only [Prod.mk.injEq] at e2
    obtain ⟨rfl, rfl, rfl⟩ := e2
    rw [eByte_good (by rw [List.length_drop]; omega), List.drop_drop] at e3
    simp only [Prod.mk.injEq] at e3
    obtain ⟨rfl, rfl, rfl⟩ := e3
    exact ⟨⟨rfl, rfl, hB3.1, Bytes.nil, .inl ⟨rfl, rfl, by omega, rfl, rfl⟩⟩, hB3.2.1, hB3.2.2, fun _ => ⟨rfl, rfl, rfl⟩, fun h => by omega⟩
  · have bad3 : b3 = true ∧ l3 = [] ∧ n = 0 := by
      by_cases h4 : 4 ≤ q.length
      · rw [eFix_good h4] at e1
        simp only [Prod.mk.injEq] at e1
        obtain ⟨rfl, rfl, rfl⟩ := e1
        by_cases h8 : 8 ≤ q.length
        · rw [eFix_good (by rw [List.length_drop]; omega)] at e2
          simp only [Prod.mk.injEq] at e2
          obtain ⟨rfl, rfl, rfl⟩ := e2
          rw [eByte_short (by simp; omega)] at e3
          simp only [Prod.mk.injEq] at e3
          exact ⟨e3.2.2.symm, e3.2.1.symm, e3.1.symm⟩
        · rw [eFix_short (by rw [List.length_drop]; omega)] at e2
          simp only [Prod.mk.injEq] at e2
          obtain ⟨rfl, rfl, rfl⟩ := e2
          rw [eByte_bad] at e3
          simp only [Prod.mk.injEq] at e3
          exact ⟨e3.2.2.symm, e3.2.1.symm, e3.1.symm⟩
      · rw [eFix_short (by omega)] at e1
        simp only [Prod.mk.injEq] at e1
        obtain ⟨rfl, rfl, rfl⟩ := e1
        rw [eFix_bad] at e2
        simp only [Prod.mk.injEq] at e2
        obtain ⟨rfl, rfl, rfl⟩ := e2
        rw [eByte_bad] at e3
        simp only [Prod.mk.injEq] at e3
        exact ⟨e3.2.2.symm, e3.2.1.symm, e3.1.symm⟩
    obtain ⟨rfl, rfl, rfl⟩ := bad3
    exact ⟨⟨rfl, rfl, Bytes.nil, Bytes.nil, .inr ⟨rfl, rfl, by omega⟩⟩, by omega, by omega, fun h => absurd h h9, fun _ => rfl⟩
theorem row_step {q : List Int} {i : Nat} {l : List Int} {bad : Bool} {P : List Int} {C : List S59} (H : EyP q i l bad P C) {b v m : Int} {l1 l2 l3 : List Int} {b1 b2 b3 : Bool} (e1 : eByte l bad = (b, l1, b1)) (e2 : eFix 4 l1 b1 = (v, l2, b2)) (e3 : eFix 4 l2 b2 = (m, l3, b3)) :
    EyP q (i + 1) l3 b3 (P ++ [b]) (C ++ [⟨wrap32 v, m⟩]) := by
  obtain ⟨hP, hC, hl, hBP, hs⟩ := H
  have hb : (0 ≤ b ∧ b < 256) ∧ Bytes l1 := by have := eByte_b (bad := bad) hl; rw [e1] at this; exact this
  have h2 : Bytes l2 := by have := eFix_b (bad := b1) 4 hb.2; rw [e2] at this; exact this
  have h3 : Bytes l3 := by have := eFix_b (bad := b2) 4 h2; rw [e3] at this; exact this
  refine ⟨by simp [hP], by simp [hC], h3, hBP.append (fun x hx => by obtain rfl := List.mem_singleton.1 hx; exact hb.1), ?_⟩
  rcases hs with ⟨rfl, hl0, hle, hPe, hCe⟩ | ⟨rfl, rfl, hlt⟩
  · have hlen : l.length = q.length - (9 + 9 * i) := by rw [hl0, List.length_drop]
    by_cases h9 : 9 ≤ l.length
    · left
      rw [eByte_good (by omega)] at e1
      simp only [Prod.mk.injEq] at e1
      obtain ⟨rfl, rfl, rfl⟩ := e1
      rw [eFix_good (by rw [List.length_drop]; omega), List.drop_drop] at e2
      simp only [Prod.mk.injEq] at e2
      obtain ⟨rfl, rfl, rfl⟩ := e2
      rw [eFix_good (by rw [List.length_drop]; omega), List.drop_drop] at e3
      simp only [Prod.mk.injEq] at e3
      obtain ⟨rfl, rfl, rfl⟩ := e3
      refine ⟨rfl, ?_, by omega, ?_, ?_⟩
      · rw [hl0, List.drop_drop]; congr 1
      · rw [pL_succ, hPe, hl0]
        unfold rowP
        rw [List.drop_drop]
      · rw [cL_succ, hCe, hl0]
        unfold rowC
        simp only [List.drop_drop]
        congr 4 <;> omega
    · right
      have fin : b3 = true ∧ l3 = [] := by
        by_cases h1 : 1 ≤ l.length
        · rw [eByte_good h1] at e1
          simp only [Prod.mk.injEq] at e1
          obtain ⟨rfl, rfl, rfl⟩ := e1
          by_cases h5 : 5 ≤ l.length
          · rw [eFix_good (by rw [List.length_drop]; omega)] at e2
            simp only [Prod.mk.injEq] at e2
            obtain ⟨rfl, rfl, rfl⟩ := e2
            rw [eFix_short (by simp; omega)] at e3
            simp only [Prod.mk.injEq] at e3
            exact ⟨e3.2.2.symm, e3.2.1.symm⟩
          · rw [eFix_short (by rw [List.length_drop]; omega)] at e2
            simp only [Prod.mk.injEq] at e2
            obtain ⟨rfl, rfl, rfl⟩ := e2
            rw [eFix_bad] at e3
            simp only [Prod.mk.injEq] at e3
            exact ⟨e3.2.2.symm, e3.2.1.symm⟩
        · rw [eByte_short (by omega)] at e1
          simp only [Prod.mk.injEq] at e1
          obtain ⟨rfl, rfl, rfl⟩ := e1
          rw [eFix_bad] at e2
          simp only [Prod.mk.injEq] at e2
          obtain ⟨rfl, rfl, rfl⟩ := e2
          rw [eFix_bad] at e3
          simp only [Prod.mk.injEq] at e3
          exact ⟨e3.2.2.symm, e3.2.1.symm⟩
      exact ⟨fin.1, fin.2, by omega⟩
  · right
    rw [eByte_bad] at e1
    simp only [Prod.mk.injEq] at e1
    obtain ⟨rfl, rfl, rfl⟩ := e1
    rw [eFix_bad] at e2
    simp only [Prod.mk.injEq] at e2
    obtain ⟨rfl, rfl, rfl⟩ := e2
    rw [eFix_bad] at e3
    simp only [Prod.mk.injEq] at e3
    exact ⟨e3.2.2.symm, e3.2.1.symm, by omega⟩
end Go.Proofs.Yticpjidcgaaldaa

namespace Go.Proofs.Yticpjidcgaaldaa
open Go.RowKit Go.Proofs.YticpjidcgaaldaaW.PrintWords Go.Proofs.YticpjidcgaaldaaW.PrintLast Go.Proofs.YticpjidcgaaldaaW.PrintMore
set_option linter.unusedVariables false
set_option linter.unusedSimpArgs false

theorem R_eye {α : Type} {d : Kd α} {e B ge : Nat} {w w' : World} {v : Value} {xs : List α} (h : d.R e w B (fun _ => True) v xs) (hk : KeepBut w w' ge none) (hg : ge < B) : d.R e w' B (fun _ => True) v xs :=
  Kd.R_mono (Kd.R_step (Kd.R_bound h) (fun k hk2 hlt => hk.2 k hlt (by have := hk2.2.1; omega) (by simp))) (fun _ _ => trivial)
def PSt (B0 B ge gd : Nat) (w0 w : World) (tk hs : Int) (l : List Int) (bad : Bool) (vP vC uP uC : Value) (P : List Int) (C : List S59) : Prop :=
  Ey w ge B l bad ∧ Hp B0 w0 w [(gd, .cells #[.int .u32 tk, .int .u32 hs, vP, vC] 26 (0, 0)), (B0, .cells #[.int .u32 0, .int .u32 0, .slice none 0 0, .slice none 0 0] 26 (0, 0))] [] ∧
    (Kd.int .u8).R 5 w B (fun _ => True) uP P ∧ k59.R 59 w B (fun _ => True) uC C ∧ B ≤ gd ∧ B0 ≤ ge ∧ ge < B ∧ B0 < ge
section
variable {B0 B ge gd : Nat} {w0 w w' : World} {tk hs : Int} {l l' : List Int} {bad bad' : Bool} {vP vC uP uC u : Value} {P : List Int} {C : List S59}
theorem PSt.le (h : PSt B0 B ge gd w0 w tk hs l bad vP vC uP uC P C) : B ≤ w.heap.size := Nat.le_trans h.2.2.2.2.1 (Nat.le_of_lt (h.2.1.lt (i := 0) rfl))
theorem PSt.below (h : PSt B0 B ge gd w0 w tk hs l bad vP vC uP uC P C) (hb : Below w.heap.size w w') : PSt B0 B ge gd w0 w' tk hs l bad vP vC uP uC P C :=
  ⟨h.1.below (hb.mono h.le) h.le, h.2.1.call hb, Kd.R_below h.2.2.1 hb, Kd.R_below h.2.2.2.1 hb, h.2.2.2.2⟩
theorem PSt.eye (h : PSt B0 B ge gd w0 w tk hs l bad vP vC uP uC P C) (he : EyTo w w' ge B l' bad') : PSt B0 B ge gd w0 w' tk hs l' bad' vP vC uP uC P C := by
  obtain ⟨h1, h2, h3, h4, h5, h6, h7, h8⟩ := h
  have hg := h2.lt (i := 0) rfl
  refine ⟨he.1, h2.rows (r1 := some ge) (r2 := none) (he.2.2.mono h6) ((he.2.1.2 gd hg (by omega) (by simp)).trans (h2.get (i := 0) rfl)) (fun k hk _ hn _ => he.2.1.2 k hk (fun e => hn (by rw [e])) (by simp)) (fun p hp => ?_), R_eye h3 he.2.1 h7, R_eye h4 he.2.1 h7, h5, h6, h7, h8⟩
  obtain rfl := List.mem_singleton.1 hp
  exact ⟨fun e => by injection e with e; omega, by simp⟩
theorem PSt.cellP (h : PSt B0 B ge gd w0 w tk hs l bad vP vC uP uC P C) : w.cell? ⟨gd, 2, none⟩ = some vP := blk_cell (h.2.1.get (i := 0) rfl) 2
theorem PSt.cellC (h : PSt B0 B ge gd w0 w tk hs l bad vP vC uP uC P C) : w.cell? ⟨gd, 3, none⟩ = some vC := blk_cell (h.2.1.get (i := 0) rfl) 3
theorem PSt.rowP {P' : List Int} (h : PSt B0 B ge gd w0 w tk hs l bad vP vC uP uC P C) (hg : w.grownBy w' uP.ownBlock) (hr : (Kd.int .u8).R 5 w' B (fun _ => True) u P') : PSt B0 B ge gd w0 w' tk hs l bad vP vC u uC P' C := by
  obtain ⟨h1, h2, h3, h4, h5, h6, h7, h8⟩ := h
  have hle : B ≤ w.heap.size := Nat.le_trans h5 (Nat.le_of_lt (h2.lt (i := 0) rfl))
  have hbase : ∀ k, uP.ownBlock = some k → B ≤ k := fun k hk => Kd.R_base h3 k hk
  have hb : Below B w w' := (Below.refl B w).grown hg hle hbase
  have n1 := Kd.R_ne h3 (h2.get (i := 0) rfl) (by decide)
  have n2 := Kd.R_ne h3 (h2.get (i := 1) rfl) (by decide)
  refine ⟨h1.below hb hle, h2.rows (r1 := uP.ownBlock) (r2 := none) (hb.mono (by omega)) ((hg.block gd (h2.lt (i := 0) rfl) n1).trans (h2.get (i := 0) rfl)) (fun k hk _ hn _ => hg.block k hk hn) (fun p hp => ?_), hr, Kd.R_grown2 h4 rfl hg (fun k hk => ?_), h5, h6, h7, h8⟩
  · obtain rfl := List.mem_singleton.1 hp
    exact ⟨n2, by simp⟩
  · intro e
    exact ((Kd.R_apartR h3 h4 (by decide)).1 k hk).2 (by rw [e])
theorem PSt.rowC {C' : List S59} (h : PSt B0 B ge gd w0 w tk hs l bad vP vC uP uC P C) (hg : w.grownBy w' uC.ownBlock) (hr : k59.R 59 w' B (fun _ => True) u C') : PSt B0 B ge gd w0 w' tk hs l bad vP vC uP u P C' := by
  obtain ⟨h1, h2, h3, h4, h5, h6, h7, h8⟩ := h
  have hle : B ≤ w.heap.size := Nat.le_trans h5 (Nat.le_of_lt (h2.lt (i := 0) rfl))
  have hbase : ∀ k, uC.ownBlock = some k → B ≤ k := fun k hk => Kd.R_base h4 k hk
  have hb : Below B w w' := (Below.refl B w).grown hg hle hbase
  have n1 := Kd.R_ne h4 (h2.get (i := 0) rfl) (by decide)
  have n2 := Kd.R_ne h4 (h2.get (i := 1) rfl) (by decide)
  refine ⟨h1.below hb hle, h2.rows (r1 := uC.ownBlock) (r2 := none) (hb.mono (by omega)) ((hg.block gd (h2.lt (i := 0) rfl) n1).trans (h2.get (i := 0) rfl)) (fun k hk _ hn _ => hg.block k hk hn) (fun p hp => ?_), Kd.R_grown2 h3 rfl hg (fun k hk => ?_), hr, h5, h6, h7, h8⟩
  · obtain rfl := List.mem_singleton.1 hp
    exact ⟨n2, by simp⟩
  · intro e
    exact ((Kd.R_apartR h3 h4 (by decide)).1 k (by rw [← e])).2 hk.symm
theorem PSt.setP (h : PSt B0 B ge gd w0 w tk hs l bad vP vC uP uC P C) : PSt B0 B ge gd w0 (w.setCell ⟨gd, 2, none⟩ uP) tk hs l bad uP vC uP uC P C := by
  obtain ⟨h1, h2, h3, h4, h5, h6, h7, h8⟩ := h
  have hle : B ≤ w.heap.size := Nat.le_trans h5 (Nat.le_of_lt (h2.lt (i := 0) rfl))
  have n1 := Kd.R_ne h3 (h2.get (i := 0) rfl) (by decide)
  have n2 := Kd.R_ne h4 (h2.get (i := 0) rfl) (by decide)
  exact ⟨h1.below ((Below.refl B w).setCell h5 _) hle, h2.setCell (i := 0) rfl 2 uP, Kd.R_grown2 h3 rfl (grown_setCell _ _ _ _) (fun k hk => by cases hk; exact n1), Kd.R_grown2 h4 rfl (grown_setCell _ _ _ _) (fun k hk => by cases hk; exact n2), h5, h6, h7, h8⟩
theorem PSt.setC (h : PSt B0 B ge gd w0 w tk hs l bad vP vC uP uC P C) : PSt B0 B ge gd w0 (w.setCell ⟨gd, 3, none⟩ uC) tk hs l bad vP uC uP uC P C := by
  obtain ⟨h1, h2, h3, h4, h5, h6, h7, h8⟩ := h
  have hle : B ≤ w.heap.size := Nat.le_trans h5 (Nat.le_of_lt (h2.lt (i := 0) rfl))
  have n1 := Kd.R_ne h3 (h2.get (i := 0) rfl) (by decide)
  have n2 := Kd.R_ne h4 (h2.get (i := 0) rfl) (by decide)
  exact ⟨h1.below ((Below.refl B w).setCell h5 _) hle, h2.setCell (i := 0) rfl 3 uC, Kd.R_grown2 h3 rfl (grown_setCell _ _ _ _) (fun k hk => by cases hk; exact n1), Kd.R_grown2 h4 rfl (grown_setCell _ _ _ _) (fun k hk => by cases hk; exact n2), h5, h6, h7, h8⟩
end
end Go.Proofs.Yticpjidcgaaldaa

namespace Go.Proofs.Yticpjidcgaaldaa
open Go.RowKit Go.Proofs.YticpjidcgaaldaaW.PrintWords Go.Proofs.YticpjidcgaaldaaW.PrintLast Go.Proofs.YticpjidcgaaldaaW.PrintMore
set_option linter.unusedVariables false
set_option linter.unusedSimpArgs false

theorem Hp.eye {B0 B ge g : Nat} {w0 w w' : World} {o : Obj} {l : List Int} {b : Bool} (h : Hp B0 w0 w [(g, o)] []) (he : EyTo w w' ge B l b) (h0 : B0 ≤ ge) (hne : g ≠ ge) : Hp B0 w0 w' [(g, o)] [] :=
  h.rows (r1 := some ge) (r2 := none) (he.2.2.mono h0) ((he.2.1.2 g (h.lt (i := 0) rfl) hne (by simp)).trans (h.get (i := 0) rfl)) (fun k hk _ hn _ => he.2.1.2 k hk (fun e => hn (by rw [e])) (by simp)) (fun p hp => by cases hp)
theorem OfR.belowR {b : Nat} {w w' : World} {tk hs : Int} {P : List Int} {C : List S59} {v : Value} (h : OfR b w tk hs P C v) (hb : Below w.heap.size w w') : OfR b w' tk hs P C v := by
  obtain ⟨A, c, A2, c2, e, h1, h2, h3, h4⟩ := h
  exact ⟨A, c, A2, c2, e, h1, h2, Kd.R_below h3 hb, Kd.R_below h4 hb⟩
theorem OfR.setRow9 {b g T : Nat} {w : World} {tk hs : Int} {P : List Int} {C : List S59} {v : Value} {cur cs : Array Value} (h : OfR b w tk hs P C v) (hg : w.heap[g]? = some (.cells cur T (0, 0))) (h1 : 5 ≠ T) (h2 : 59 ≠ T) : OfR b (w.setRow g cs) tk hs P C v := by
  obtain ⟨A, c, A2, c2, e, k1, k2, h3, h4⟩ := h
  exact ⟨A, c, A2, c2, e, k1, k2, Kd.R_grown2 h3 rfl (grown_setRow _ _ _) (fun k hk => by cases hk; exact Kd.R_ne h3 hg h1), Kd.R_grown2 h4 rfl (grown_setRow _ _ _) (fun k hk => by cases hk; exact Kd.R_ne h4 hg h2)⟩
def Z4 : Array Value := #[.int .u32 0, .int .u32 0, .slice none 0 0, .slice none 0 0]
def ParseR (q : List Int) (b : Nat) (w' : World) (e : Ending) : Prop :=
  if okD q = true then ∃ v, e = .returned (.tuple #[v, .int .i64 0]) ∧ OfR b w' (leN (q.take 4)) (leN ((q.drop 4).take 4)) (pL (q.drop 9) (cntD q)) (cL (q.drop 9) (cntD q)) v
  else e = .returned (.tuple #[.agg Z4, .int .i64 2])
theorem zero_delta (w : World) : (zeroValue 26).run Try.prog w = .ok (.agg #[.int .u32 0, .int .u32 0, .slice none 0 0, .slice none 0 0]) w := by kernel_rfl

set_option maxRecDepth 100000 in
set_option maxHeartbeats 16000000 in
theorem parse_any (A : Option Addr) (n c : Nat) (q : List Int) (w00 : World) (hq : (Kd.int .u8).C w00 A n q) (hn : n ≤ 100000000) (hb : Bytes q) :
    Calls Try.prog 46 #[.slice A n c] w00 fun e w' => ParseR q w00.heap.size w' e ∧ Below w00.heap.size w00 w' := by
  have H0 := Aside0.mk ((Hp.start w00).alloc (.cells #[.int .u32 0, .int .u32 0, .slice none 0 0, .slice none 0 0] 26))
  have KR := Aside0.mk (read_any A n c q (w00.alloc (.cells #[.int .u32 0, .int .u32 0, .slice none 0 0, .slice none 0 0] 26)) (Kd.C_alloc hq _) hn)
  have HBQ := Aside0.mk hb
  clear hq hn hb
  go_enter Try.func46, Try.ntmps46
  go_wp2_with fail
  refine KR.out.mono ?_
  rintro e w1 ⟨ge, rfl, hge, hEy, hb1⟩
  obtain ⟨B0, hB0⟩ : ∃ B0, w00.heap.size = B0 := ⟨_, rfl⟩
  obtain ⟨B, hB⟩ : ∃ B, w1.heap.size = B := ⟨_, rfl⟩
  rw [hB] at hEy
  have hge2 : B0 < ge := by rw [← hB0]; simp at hge; omega
  have H1 := Aside0.mk (H0.out.call hb1)
  rw [hB0] at H1
  rw [hB0]
  have HB0 := Aside0.mk hB0
  have hgB : ge < B := by obtain ⟨_, _, _, _, _, _, _, h5⟩ := hEy; exact h5
  have HGE := Aside0.mk (And.intro hge2 hgB)
  have HBW : Aside0 (B = w1.heap.size) := ⟨hB.symm⟩
  obtain ⟨⟨tt, l1, b1⟩, e1⟩ : ∃ x, eFix 4 q false = x := ⟨_, rfl⟩
  obtain ⟨⟨hh, l2, b2⟩, e2⟩ : ∃ x, eFix 4 l1 b1 = x := ⟨_, rfl⟩
  obtain ⟨⟨nn, l3, b3⟩, e3⟩ : ∃ x, eByte l2 b2 = x := ⟨_, rfl⟩
  have HHD := Aside0.mk (head_step HBQ.out e1 e2 e3)
  have hBl1 : Bytes l1 := by have := eFix_b (bad := false) 4 HBQ.out; rw [e1] at this; exact this
  have hBl2 : Bytes l2 := by have := eFix_b (bad := b1) 4 hBl1; rw [e2] at this; exact this
  have K1 := eword_any ge B q false w1 hEy HBQ.out
  rw [e1] at K1
  have KK1 := Aside0.mk K1
  have KK2 := Aside0.mk (fun (X : World) (hx : Ey X ge B l1 b1) => eword_any ge B l1 b1 X hx hBl1)
  rw [e2] at KK2
  have KK3 := Aside0.mk (fun (X : World) (hx : Ey X ge B l2 b2) => ebyte_any ge B l2 b2 X hx)
  rw [e3] at KK3
  clear hB0 hB hge hge2 hgB hEy hb1 H0 KR K1 e1 e2 e3 hBl1 hBl2
  go_wp2_with fail
  refine KK1.out.mono ?_
  rintro e w2 ⟨rfl, he2⟩
  have H2 := Aside0.mk (H1.out.eye he2 (Nat.le_of_lt HGE.out.1) (Nat.ne_of_lt HGE.out.1))
  have HE2 := Aside0.mk he2
  clear he2 H1 KK1
  go_wp2_with fail
  refine (KK2.out _ HE2.out.1).mono ?_
  rintro e w3 ⟨rfl, he3⟩
  have H3 := Aside0.mk (H2.out.eye he3 (Nat.le_of_lt HGE.out.1) (Nat.ne_of_lt HGE.out.1))
  have hsz : B ≤ w3.heap.size := by have h1 := HE2.out.2.1.1; have h2 := he3.2.1.1; have := HBW.out; omega
  have HSZ := Aside0.mk hsz
  have H4 := Aside0.mk (H3.out.alloc (.cells #[.int .u32 tt, .int .u32 hh, .slice none 0 0, .slice none 0 0] 26))
  have HE4 := Aside0.mk (he3.1.below ((below_alloc (Below.refl w3.heap.size w3) (.cells #[.int .u32 tt, .int .u32 hh, .slice none 0 0, .slice none 0 0] 26)).mono hsz) hsz)
  clear he3 hsz H2 H3 HE2 KK2
  go_wp2_with fail
  have S0 : Aside0 (PSt B0 B ge w3.heap.size w00 (w3.alloc (.cells #[.int .u32 tt, .int .u32 hh, .slice none 0 0, .slice none 0 0] 26)) tt hh l2 b2 (.slice none 0 0) (.slice none 0 0) (.slice none 0 0) (.slice none 0 0) [] []) := ⟨HE4.out, H4.out, Kd.R_nil _ _ _ _ _, Kd.R_nil _ _ _ _ _, HSZ.out, Nat.le_of_lt HGE.out.1, HGE.out.2, HGE.out.1⟩
  refine (KK3.out _ S0.out.1).mono ?_
  rintro e w5 ⟨rfl, he5⟩
  have S1 := Aside0.mk (S0.out.eye he5)
  clear he5 H4 HE4 KK3 S0 HSZ HBW
  generalize w3.heap.size = gd at *
  obtain ⟨m, hm⟩ : ∃ m : Nat, nn = (m : Int) := ⟨nn.toNat, by have := HHD.out.2.1; omega⟩
  subst hm
  have hm255 : (m : Int) ≤ 255 := by have := HHD.out.2.2.1; omega
  go_wp2_with fail
  go_loopw [17] (fun v17 wr => ∃ i : Nat, i ≤ m ∧ v17 = .int .u8 i ∧ ∃ (l : List Int) (bad : Bool) (P : List Int) (C : List S59) (vP vC : Value), Aside0 (EyP q i l bad P C ∧ PSt B0 B ge gd w00 wr tt hh l bad vP vC vP vC P C)) (fun v17 _ => m - (intOf v17).toNat)
  case atStart => exact ⟨0, by omega, rfl, l3, b3, [], [], .slice none 0 0, .slice none 0 0, ⟨HHD.out.1, S1.out⟩⟩
  case round =>
    clear S1
    obtain ⟨i, hi, rfl, l, bad, P, C, vP, vC, H⟩ := hrel
    by_cases hlt : i < m
    · have d1 : decide (i < m) = true := decide_eq_true hlt
      have hi0 : (0 : Int) ≤ i := by omega
      have him : (i : Int) < m := by omega
      have hi8 : (i : Int) < 255 := by omega
      obtain ⟨⟨b, l1, b1⟩, e1⟩ : ∃ x, eByte l bad = x := ⟨_, rfl⟩
      obtain ⟨⟨vv, l2, b2⟩, e2⟩ : ∃ x, eFix 4 l1 b1 = x := ⟨_, rfl⟩
      obtain ⟨⟨mk, l3', b3'⟩, e3⟩ : ∃ x, eFix 4 l2 b2 = x := ⟨_, rfl⟩
      have HST := Aside0.mk (row_step H.out.1 e1 e2 e3)
      have hBl : Bytes l := H.out.1.2.2.1
      have hBl1 : Bytes l1 := by have := eByte_b (bad := bad) hBl; rw [e1] at this; exact this.2
      have hBl2 : Bytes l2 := by have := eFix_b (bad := b1) 4 hBl1; rw [e2] at this; exact this
      have HLN : Aside0 (P.length ≤ 255 ∧ C.length ≤ 255) := ⟨by have h1 := H.out.1.1; have h2 := H.out.1.2.1; omega⟩
      have K1 := Aside0.mk (fun (X : World) (hx : Ey X ge B l bad) => ebyte_any ge B l bad X hx)
      have K2 := Aside0.mk (fun (X : World) (hx : Ey X ge B l1 b1) => eword_any ge B l1 b1 X hx hBl1)
      have K3 := Aside0.mk (fun (X : World) (hx : Ey X ge B l2 b2) => eword_any ge B l2 b2 X hx hBl2)
      rw [e1] at K1
      rw [e2] at K2
      rw [e3] at K3
      have S := Aside0.mk H.out.2
      clear e1 e2 e3 hBl hBl1 hBl2 H
      go_wp2_with fail
      have GW : Aside0 (∀ b', wr.heap.size ≤ b' → some b' ≠ vP.ownBlock ∧ some b' ≠ vC.ownBlock ∧ b' ≠ gd ∧ b' ≠ ge) := ⟨fun b' hb' => ⟨fun e => by have := Kd.R_lt S.out.2.2.1 _ e.symm; omega, fun e => by have := Kd.R_lt S.out.2.2.2.1 _ e.symm; omega, fun e => by have := S.out.2.1.lt (i := 0) rfl; omega, fun e => by have := S.out.le; have := HGE.out.2; omega⟩⟩
      refine regionS (W := wr)
        [fun _ v => v = .pointer (some ⟨gd, 2, none⟩),
         fun _ v => v = vP,
         fun _ v => v = .pointer (some ⟨ge, 0, none⟩),
         fun _ v => v = .int .u8 b,
         fun (w : World) (v : Value) => ∃ bl, v = .slice (some ⟨bl, 0, none⟩) 1 1 ∧ wr.heap.size ≤ bl ∧ w.heap[bl]? = some (.cells #[.int .u8 b] 5 (0, 0)),
         fun _ _ => True,
         fun _ v => v = .pointer (some ⟨gd, 2, none⟩),
         fun _ _ => True]
        [3, 5, 7]
        (fun t => match t with | 0 => fun (rs : List Value) (w : World) => PSt B0 B ge gd w00 w tt hh l bad vP vC vP vC P C | 1 => fun (rs : List Value) (w : World) => PSt B0 B ge gd w00 w tt hh l1 b1 vP vC vP vC P C | 2 => fun (rs : List Value) (w : World) => PSt B0 B ge gd w00 w tt hh l1 b1 vP vC (rs.getD 1 undef) vC (P ++ [b]) C | 3 => fun (rs : List Value) (w : World) => ∃ u, PSt B0 B ge gd w00 w tt hh l1 b1 u vC u vC (P ++ [b]) C | _ => fun _ _ => False)
        (fun _ w w' => ∀ b', wr.heap.size ≤ b' → b' < w.heap.size → w'.heap[b']? = w.heap[b']?) (fun w => wr.heap.size ≤ w.heap.size)
        (fun j =>  none)
        [(0, some 19), (1, some 20), (2, some 21), (3, some 22), (4, some 23), (5, some 24), (6, some 25), (7, none)]
        []
        (by kernel_rfl) (by kernel_rfl) (by kernel_rfl) (by kernel_rfl) (by kernel_rfl) ?z5_1c ?z5_1i ?z5_1b ?z5_1d ?z5_1g ⟨?z5_1t0, ?z5_1t1, ?z5_1t2, ?z5_1t3, ?z5_1t4, ?z5_1t5, ?z5_1t6, ?z5_1t7, trivial⟩ ⟨?z5_1o0, ?z5_1o1, ?z5_1o2, ?z5_1o3, ?z5_1o4, ?z5_1o5, ?z5_1o6, ?z5_1o7, trivial⟩ ?z5_1e
      case z5_1c => exact (Nat.le_refl _)
      case z5_1i => exact (S.out.below (below_drew (Below.refl _ _)))
      case z5_1b => intro w w' hb h; exact Nat.le_trans h hb.size
      case z5_1d =>
        intro t rs w w' hb h
        match t, h with
        | 0, h => (replace h : PSt B0 B ge gd w00 w tt hh l bad vP vC vP vC P C := h); show PSt B0 B ge gd w00 w' tt hh l bad vP vC vP vC P C; first | exact PSt.below h hb | (obtain ⟨u, h⟩ := h; exact ⟨u, PSt.below h hb⟩)
        | 1, h => (replace h : PSt B0 B ge gd w00 w tt hh l1 b1 vP vC vP vC P C := h); show PSt B0 B ge gd w00 w' tt hh l1 b1 vP vC vP vC P C; first | exact PSt.below h hb | (obtain ⟨u, h⟩ := h; exact ⟨u, PSt.below h hb⟩)
        | 2, h => (replace h : PSt B0 B ge gd w00 w tt hh l1 b1 vP vC (rs.getD 1 undef) vC (P ++ [b]) C := h); show PSt B0 B ge gd w00 w' tt hh l1 b1 vP vC (rs.getD 1 undef) vC (P ++ [b]) C; first | exact PSt.below h hb | (obtain ⟨u, h⟩ := h; exact ⟨u, PSt.below h hb⟩)
        | 3, h => (replace h : ∃ u, PSt B0 B ge gd w00 w tt hh l1 b1 u vC u vC (P ++ [b]) C := h); show ∃ u, PSt B0 B ge gd w00 w' tt hh l1 b1 u vC u vC (P ++ [b]) C; first | exact PSt.below h hb | (obtain ⟨u, h⟩ := h; exact ⟨u, PSt.below h hb⟩)
        | _ + 4, h => exact h.elim
      case z5_1g =>
        intro j hj; cases hj
      case z5_1t0 => exact StabS.const _ _ _ _
      case z5_1t1 => exact StabS.const _ _ _ _
      case z5_1t2 => exact StabS.const _ _ _ _
      case z5_1t3 => exact StabS.const _ _ _ _
      case z5_1t4 => exact ⟨(by intro w w' v hb h; (obtain ⟨bl, h1, h2, h3⟩ := h; exact ⟨bl, h1, h2, blk_below h3 hb⟩)), (by intro k hk hne w w' v ht h; (obtain ⟨bl, h1, h2, h3⟩ := h; exact ⟨bl, h1, h2, (ht bl h2 (blk_lt h3)).trans h3⟩))⟩
      case z5_1t5 => exact StabS.const _ _ _ _
      case z5_1t6 => exact StabS.const _ _ _ _
      case z5_1t7 => exact StabS.const _ _ _ _
      case z5_1o0 =>
        intro vs w t hC ht1 ht2 hS hV
        rw [if_pos (by kernel_rfl)]
        generalize hρ : rho _ _ _ vs = ρ
        have e5 : ρ (.tmp 5) = .pointer (some ⟨gd, 0, none⟩) := by rw [← hρ]; kernel_rfl
        clear hρ hV
        refine runs_val (v := .pointer (some ⟨gd, 2, none⟩)) (w' := w) ?_ ⟨Below.refl _ _, rfl⟩
        clear ht1 ht2 hS hC
        go_simp <;> (first | exact IntWalk.u64_in _ (by omega) | exact IntWalk.u32_in _ (by omega) | exact IntWalk.u16_in _ (by omega) | exact IntWalk.u8_in _ (by omega) | exact IntWalk.i64_in _ (by omega) | skip)
      case z5_1o1 =>
        intro vs w t hC ht1 ht2 hS hV
        rw [if_pos (by kernel_rfl)]
        generalize hρ : rho _ _ _ vs = ρ
        have d19 : (vs 0) = .pointer (some ⟨gd, 2, none⟩) := hV 0 (by kernel_rfl)
        have e19 : ρ (.tmp 19) = vs 0 := by rw [← hρ]; kernel_rfl
        rw [d19] at e19; clear d19
        clear hρ hV
        have ht0 : t ≤ 1 := by
          rcases Nat.lt_or_ge 1 t with hq | hq
          · exact absurd (ht1 1 5 _ hq rfl rfl) (by decide +kernel)
          · exact hq
        rcases (show t = 0 ∨ t = 1 by omega) with rfl | rfl
        · replace hS : PSt B0 B ge gd w00 w tt hh l bad vP vC vP vC P C := hS
          have c0 := PSt.cellP hS
          refine runs_val (v := vP) (w' := w) ?_ ⟨Below.refl _ _, rfl⟩
          clear ht1 ht2 hS hC
          go_simp
        · replace hS : PSt B0 B ge gd w00 w tt hh l1 b1 vP vC vP vC P C := hS
          have c0 := PSt.cellP hS
          refine runs_val (v := vP) (w' := w) ?_ ⟨Below.refl _ _, rfl⟩
          clear ht1 ht2 hS hC
          go_simp
      case z5_1o2 =>
        intro vs w t hC ht1 ht2 hS hV
        rw [if_pos (by kernel_rfl)]
        generalize hρ : rho _ _ _ vs = ρ
        have e4 : ρ (.tmp 4) = .pointer (some ⟨ge, 0, none⟩) := by rw [← hρ]; kernel_rfl
        clear hρ hV
        refine runs_val (v := .pointer (some ⟨ge, 0, none⟩)) (w' := w) ?_ ⟨Below.refl _ _, rfl⟩
        clear ht1 ht2 hS hC
        go_simp <;> (first | exact IntWalk.u64_in _ (by omega) | exact IntWalk.u32_in _ (by omega) | exact IntWalk.u16_in _ (by omega) | exact IntWalk.u8_in _ (by omega) | exact IntWalk.i64_in _ (by omega) | skip)
      case z5_1o3 =>
        intro vs w hC hS hV
        replace hS : PSt B0 B ge gd w00 w tt hh l bad vP vC vP vC P C := hS
        rw [if_pos (by kernel_rfl)]
        generalize hρ : rho _ _ _ vs = ρ
        have d21 : (vs 2) = .pointer (some ⟨ge, 0, none⟩) := hV 2 (by kernel_rfl)
        have e21 : ρ (.tmp 21) = vs 2 := by rw [← hρ]; kernel_rfl
        rw [d21] at e21; clear d21
        have ef44 : ρ (.func 44) = .func (.func 44) #[] #[] := by rw [← hρ]; rfl
        clear hρ hV
        refine runs_call (f := 44) (args := #[.pointer (some ⟨ge, 0, none⟩)]) (w' := w) ?_ ?_
        · go_simp
        · refine (K1.out w hS.1).mono ?_
          rintro e w5 ⟨rfl, he5⟩
          exact ⟨_, rfl, Nat.le_trans hC he5.2.1.1, (fun b' h1 h2 => he5.2.1.2 b' h2 (GW.out b' h1).2.2.2 (by simp)), rfl, hS.eye he5⟩
      case z5_1o4 =>
        intro vs w t hC ht1 ht2 hS hV
        rw [if_pos (by kernel_rfl)]
        generalize hρ : rho _ _ _ vs = ρ
        have d22 : (vs 3) = .int .u8 b := hV 3 (by kernel_rfl)
        have e22 : ρ (.tmp 22) = vs 3 := by rw [← hρ]; kernel_rfl
        rw [d22] at e22; clear d22
        clear hρ hV
        refine runs_val (v := .slice (some ⟨w.heap.size, 0, none⟩) 1 1) (w' := w.alloc (.cells #[.int .u8 b] 5)) ?_ ⟨below_alloc (Below.refl _ _) _, ⟨w.heap.size, rfl, hC, blk_new _ _⟩⟩
        clear ht1 ht2 hS hC
        go_simp
      case z5_1o5 =>
        intro vs w hC hS hV
        replace hS : PSt B0 B ge gd w00 w tt hh l1 b1 vP vC vP vC P C := hS
        rw [if_pos (by kernel_rfl)]
        generalize hρ : rho _ _ _ vs = ρ
        have d20 : (vs 1) = vP := hV 1 (by kernel_rfl)
        have e20 : ρ (.tmp 20) = vs 1 := by rw [← hρ]; kernel_rfl
        rw [d20] at e20; clear d20
        have d23 : (fun (w : World) (v : Value) => ∃ bl, v = .slice (some ⟨bl, 0, none⟩) 1 1 ∧ wr.heap.size ≤ bl ∧ w.heap[bl]? = some (.cells #[.int .u8 b] 5 (0, 0))) w (vs 4) := hV 4 (by kernel_rfl)
        have e23 : ρ (.tmp 23) = vs 4 := by rw [← hρ]; kernel_rfl
        obtain ⟨bl, hve23, hbl1, hbl2⟩ := d23
        clear hρ hV
        rw [hve23] at e23
        refine runs_append (Kd.int .u8) (Rr := fun x cs => cs = [.int .u8 x]) B 20 23 23 5 (.int .u8 0) 1 rfl Try.underlying23 np_info rfl (by decide) (by decide) vP P [b] (some ⟨bl, 0, none⟩) 1 1 (fun _ => True) (fun _ => False) e20 e23 hS.2.2.1 (C_of_block (k := .u8) hbl2 ⟨rfl, rfl, by decide⟩) (fun _ _ h => h) (fun _ h => h.elim) (fun _ _ => trivial) hS.le (by have := HLN.out; omega) ?_
        intro v1 w1 h1 hg1 hat
        exact ⟨Nat.le_trans hC hg1.size, (fun b' h1 h2 => hg1.block b' h2 (GW.out b' h1).1), trivial, hS.rowP hg1 h1⟩
      case z5_1o6 =>
        intro vs w t hC ht1 ht2 hS hV
        rw [if_pos (by kernel_rfl)]
        generalize hρ : rho _ _ _ vs = ρ
        have e5 : ρ (.tmp 5) = .pointer (some ⟨gd, 0, none⟩) := by rw [← hρ]; kernel_rfl
        clear hρ hV
        refine runs_val (v := .pointer (some ⟨gd, 2, none⟩)) (w' := w) ?_ ⟨Below.refl _ _, rfl⟩
        clear ht1 ht2 hS hC
        go_simp <;> (first | exact IntWalk.u64_in _ (by omega) | exact IntWalk.u32_in _ (by omega) | exact IntWalk.u16_in _ (by omega) | exact IntWalk.u8_in _ (by omega) | exact IntWalk.i64_in _ (by omega) | skip)
      case z5_1o7 =>
        intro vs w hC hS hV
        replace hS : PSt B0 B ge gd w00 w tt hh l1 b1 vP vC (vs 5) vC (P ++ [b]) C := hS
        rw [if_pos (by kernel_rfl)]
        generalize hρ : rho _ _ _ vs = ρ
        have d25 : (vs 6) = .pointer (some ⟨gd, 2, none⟩) := hV 6 (by kernel_rfl)
        have e25 : ρ (.tmp 25) = vs 6 := by rw [← hρ]; kernel_rfl
        rw [d25] at e25; clear d25
        have d24 : (fun (w : World) (v : Value) => True) w (vs 5) := hV 5 (by kernel_rfl)
        have e24 : ρ (.tmp 24) = vs 5 := by rw [← hρ]; kernel_rfl
        clear hρ hV
        have hS2 := hS.setP
        obtain ⟨A5, c5, hs5⟩ := Kd.R_slice hS.2.2.1
        have f0 := blk_frozen (hS.2.1.get (i := 0) rfl) 2
        have c0 := PSt.cellP hS
        refine runs_skip (w' := w.setCell ⟨gd, 2, none⟩ (vs 5)) ?_ ⟨Nat.le_trans hC (by simp [World.setCell]), (fun b' h1 h2 => Below.heap_setCell _ _ _ _ (GW.out b' h1).2.2.1), trivial, ⟨_, hS2⟩⟩
        rw [hs5] at e24
        rw [hs5]
        clear hS hS2 hC d24 hs5
        go_simp
      case z5_1e =>
        intro vs z1 hC hS hV
        replace hS : (fun (w : World) => ∃ u, PSt B0 B ge gd w00 w tt hh l1 b1 u vC u vC (P ++ [b]) C) z1 := hS
        have d19 : (vs 0) = .pointer (some ⟨gd, 2, none⟩) := hV 0 (Nat.le_of_ble_eq_true rfl)
        have d20 : (vs 1) = vP := hV 1 (Nat.le_of_ble_eq_true rfl)
        have d21 : (vs 2) = .pointer (some ⟨ge, 0, none⟩) := hV 2 (Nat.le_of_ble_eq_true rfl)
        have d22 : (vs 3) = .int .u8 b := hV 3 (Nat.le_of_ble_eq_true rfl)
        have d23 : (fun (w : World) (v : Value) => ∃ bl, v = .slice (some ⟨bl, 0, none⟩) 1 1 ∧ wr.heap.size ≤ bl ∧ w.heap[bl]? = some (.cells #[.int .u8 b] 5 (0, 0))) z1 (vs 4) := hV 4 (Nat.le_of_ble_eq_true rfl)
        have d24 : (fun (w : World) (v : Value) => True) z1 (vs 5) := hV 5 (Nat.le_of_ble_eq_true rfl)
        have d25 : (vs 6) = .pointer (some ⟨gd, 2, none⟩) := hV 6 (Nat.le_of_ble_eq_true rfl)
        clear hV
        simp only [putAll]
        rw [d19, d20, d21, d22, d25]
        clear d19 d20 d21 d22 d25
        generalize vs 4 = v23 at *
        generalize vs 5 = v24 at *
        generalize vs 7 = vN7
        clear vs
        simp only [Act.put, List.setIfInBounds_toArray, List.set_cons_zero, List.set_cons_succ]
        obtain ⟨vP', hS⟩ := hS
        have S1 := Aside0.mk hS
        clear hS hC d23 d24 GW S K1
        go_wp2_with fail
        refine (K2.out _ S1.out.1).mono ?_
        rintro e z2 ⟨rfl, he2⟩
        have S2 := Aside0.mk (S1.out.eye he2)
        clear he2 S1 K2
        go_wp2_with fail
        refine (K3.out _ S2.out.1).mono ?_
        rintro e z3 ⟨rfl, he3⟩
        have S3 := Aside0.mk (S2.out.eye he3)
        clear he3 S2 K3
        obtain ⟨x0, hx0⟩ : ∃ x0, wrap32 vv = x0 := ⟨_, rfl⟩
        have HX0 := Aside0.mk hx0
        rw [hx0] at HST
        clear hx0
        have S3a := Aside0.mk (S3.out.below (below_alloc (Below.refl _ _) (.cells #[.int .i32 x0, .int .u32 mk] 59)))
        have HCX := Aside0.mk (C_one_cell2 (x := ⟨x0, mk⟩) (blk_new z3 (.cells #[.int .i32 x0, .int .u32 mk] 59)))
        have HLC : Aside0 ((C.length + 1) * 8 ≤ 140737488355328) := ⟨by have := HLN.out; omega⟩
        have c3' := PSt.cellC S3.out
        have hx0 := HX0.out
        go_wp2_with (at_builtin; go_loud (refine Kd.R_append_rows k59 (Rr := fun x cs => cs = [.int .i32 x.f0, .int .u32 x.f1]) (w0 := z3.alloc (.cells #[.int .i32 x0, .int .u32 mk] 59)) B rfl (.tmp 31) (.tmp 36) 24 59 (.agg #[.int .i32 0, .int .u32 0]) 8 rfl Try.underlying24 cell_full rfl (by decide) (by decide) vC C [⟨x0, mk⟩] (some ⟨z3.heap.size, 0, none⟩) 1 1 (fun _ => True) (fun _ => False) rfl rfl S3a.out.2.2.2.1 HCX.out (fun x cs h => by rw [h]; exact k59_mkM _ _ _ x) (fun _ h => h.elim) (fun _ _ => trivial) (Below.refl _ _) S3a.out.le HLC.out ?_))
        intro v1 z4 hv4 hb4 hg4 _
        have S5 := Aside0.mk (S3a.out.rowC hg4 hv4)
        obtain ⟨A5, c5, hs5⟩ := Kd.R_slice hv4
        subst hs5
        generalize (C ++ [(⟨x0, mk⟩ : S59)]).length = cl5 at *
        clear c3' hx0 hv4 hb4 hg4 S3 S3a HCX HLC HX0
        have c3' := PSt.cellC S5.out
        have f3' := blk_frozen (S5.out.2.1.get (i := 0) rfl) 3
        have S4 : Aside0 (EyP q (i + 1) l3' b3' (P ++ [b]) (C ++ [⟨x0, mk⟩]) ∧ PSt B0 B ge gd w00 (z4.setCell ⟨gd, 3, none⟩ (.slice A5 cl5 c5)) tt hh l3' b3' vP' (.slice A5 cl5 c5) vP' (.slice A5 cl5 c5) (P ++ [b]) (C ++ [⟨x0, mk⟩])) := ⟨HST.out, S5.out.setC⟩
        clear HST S5
        go_wp2_with fail
        go_roundw
        case rel => exact ⟨i + 1, by omega, by go_num, l3', b3', P ++ [b], C ++ [⟨x0, mk⟩], vP', .slice A5 cl5 c5, S4⟩
        case measure => simp [intOf]; omega
    · obtain rfl : i = m := by omega
      have d1 : decide (i < i) = false := decide_eq_false (by omega)
      clear hlt hi
      have hfin := H.out.1
      obtain ⟨hl1, hl2, hl3, hl4, hcase⟩ := hfin
      have hcnt : 9 ≤ q.length → i = cntD q := fun h9 => by have := (HHD.out.2.2.2.1 h9).2.2; simpa using this
      have KD := Aside0.mk (done_any ge B l bad wr H.out.2.1)
      obtain ⟨A1, c1, hv1, lc1, k1⟩ := Kd.R_reads H.out.2.2.2.1
      obtain ⟨A2, c2, hv2, lc2, k2⟩ := Kd.R_reads H.out.2.2.2.2.1
      have KRT := Aside0.mk (right_any tt hh A1 A2 c1 c2 P C wr k1 lc1 k2 lc2 hl4 (by omega))
      have hRP := H.out.2.2.2.1
      have hRC := H.out.2.2.2.2.1
      have hBB := Nat.le_trans (Nat.le_of_lt HGE.out.1) (Nat.le_of_lt HGE.out.2)
      have HOF := Aside0.mk (show OfR B0 wr tt hh P C (.agg #[.int .u32 tt, .int .u32 hh, vP, vC]) from ⟨A1, c1, A2, c2, by rw [hv1, hv2], lc1, lc2, by rw [← hv1]; exact Kd.R_lower hRP hBB, by rw [← hv2]; exact Kd.R_lower hRC hBB⟩)
      have HP := Aside0.mk H.out.2.2.1
      rw [hv1, hv2] at HP HOF
      by_cases hd : bad = true ∨ 0 < l.length
      · rw [if_pos hd] at KD
        have hok : okD q = false := by
          unfold okD
          rw [Bool.and_eq_false_iff]
          left
          rw [decide_eq_false_iff_not]
          rintro ⟨h9, hq9⟩
          have hc := hcnt h9
          rcases hcase with ⟨hb, hl, hle, _⟩ | ⟨hb, hl, hlt⟩
          · rcases hd with h | h
            · rw [hb] at h; cases h
            · rw [hl, List.length_drop] at h
              omega
          · omega
        have HOK := Aside0.mk hok
        clear hcase hcnt hl1 hl2 hl3 hl4 hv1 hv2 lc1 lc2 k1 k2 hRP hRC hBB hd hok H KRT
        go_wp2_with fail
        refine KD.out.mono ?_
        rintro e w2 ⟨rfl, rfl⟩
        clear KD
        have hzd := zero_delta
        go_wp2_with (first | (refine wpList_store_row rfl 26 (.tmp 2) (.tmp 48) rfl B0 #[.int .u32 0, .int .u32 0, .slice none 0 0, .slice none 0 0] rfl rfl 26 _ (HP.out.get (i := 1) rfl) (delta_info _ _ _ _) rfl (by simp [Value.oneCell']) ?_))
        have H9 := Aside0.mk (HP.out.setRow (i := 1) rfl #[.int .u32 0, .int .u32 0, .slice none 0 0, .slice none 0 0])
        refine bodyPost_ret (results_ct rfl _ _ B0 _ #[.int .u32 0, .int .u32 0, .slice none 0 0, .slice none 0 0] (0, 0) _ rfl (H9.out.get (i := 1) rfl) Try.underlying26 rfl (delta_info _ _ _ _)) rfl ?_
        refine ⟨?_, by rw [HB0.out]; exact H9.out.bel⟩
        unfold ParseR
        rw [HOK.out]
        rfl
      · rw [if_neg hd] at KD
        have hgood : bad = false ∧ l = [] := by
          refine ⟨by cases bad; rfl; exact absurd (.inl rfl) hd, ?_⟩
          rcases l with _ | ⟨a, l⟩
          · rfl
          · exact absurd (.inr (by simp)) hd
        obtain ⟨hq9, hPe, hCe⟩ : (9 ≤ q.length ∧ q.length = 9 + 9 * cntD q) ∧ P = pL (q.drop 9) (cntD q) ∧ C = cL (q.drop 9) (cntD q) := by
          rcases hcase with ⟨hb, hl, hle, hPe, hCe⟩ | ⟨hb, hl, hlt⟩
          · have h9 : 9 ≤ q.length := by omega
            have hc := hcnt h9
            have hl0 : (q.drop (9 + 9 * i)).length = 0 := by rw [← hl, hgood.2]; rfl
            rw [List.length_drop] at hl0
            exact ⟨⟨h9, by omega⟩, by rw [← hc]; exact hPe, by rw [← hc]; exact hCe⟩
          · rw [hgood.1] at hb; cases hb
        have hok : okD q = rightB P C.length := by
          unfold okD rightB
          rw [decide_eq_true hq9, hPe, hCe, pL_len, cL_len]
          simp
        have htk := HHD.out.2.2.2.1 hq9.1
        have HOK := Aside0.mk (And.intro hok (And.intro hPe (And.intro hCe (And.intro htk.1 htk.2.1))))
        obtain ⟨β, hβ⟩ : ∃ β, rightB P C.length = β := ⟨_, rfl⟩
        rw [hβ] at KRT HOK
        subst hv1 hv2
        clear hcase hcnt hl1 hl2 hl3 hl4 lc1 lc2 k1 k2 hRP hRC hBB hd hok H hgood hq9 hPe hCe htk hβ
        generalize hpn : P.length = pn at *
        generalize hcn : C.length = cn at *
        have HN := Aside0.mk (And.intro hpn hcn)
        clear hpn hcn
        go_wp2_with fail
        refine KD.out.mono ?_
        rintro e w2 ⟨rfl, rfl⟩
        clear KD
        go_wp2_with (first | (refine wpList_load_row_g 26 (.tmp 5) rfl gd rfl rfl 26 _ (0, 0) _ (HP.out.get (i := 0) rfl) Try.underlying26 rfl (delta_info _ _ _ _) ?_))
        refine KRT.out.mono ?_
        rintro e w3 ⟨rfl, hb3⟩
        have HP3 := Aside0.mk (HP.out.call hb3)
        have HOF3 := Aside0.mk (HOF.out.belowR hb3)
        clear hb3 HP HOF KRT
        have hzd := zero_delta
        cases β with
        | false =>
          go_wp2_with (first | (refine wpList_store_row rfl 26 (.tmp 2) (.tmp 48) rfl B0 #[.int .u32 0, .int .u32 0, .slice none 0 0, .slice none 0 0] rfl rfl 26 _ (HP3.out.get (i := 1) rfl) (delta_info _ _ _ _) rfl (by simp [Value.oneCell']) ?_))
          have H9 := Aside0.mk (HP3.out.setRow (i := 1) rfl #[.int .u32 0, .int .u32 0, .slice none 0 0, .slice none 0 0])
          refine bodyPost_ret (results_ct rfl _ _ B0 _ #[.int .u32 0, .int .u32 0, .slice none 0 0, .slice none 0 0] (0, 0) _ rfl (H9.out.get (i := 1) rfl) Try.underlying26 rfl (delta_info _ _ _ _)) rfl ?_
          refine ⟨?_, by rw [HB0.out]; exact H9.out.bel⟩
          unfold ParseR
          rw [HOK.out.1]
          rfl
        | true =>
          go_wp2_with (first | (refine wpList_load_row_g 26 (.tmp 5) rfl gd rfl rfl 26 _ (0, 0) _ (HP3.out.get (i := 0) rfl) Try.underlying26 rfl (delta_info _ _ _ _) ?_) | (refine wpList_store_row rfl 26 (.tmp 2) (.tmp 49) rfl B0 #[.int .u32 tt, .int .u32 hh, .slice A1 pn c1, .slice A2 cn c2] rfl rfl 26 _ (HP3.out.get (i := 1) rfl) (delta_info _ _ _ _) rfl (by simp [Value.oneCell']) ?_))
          have H9 := Aside0.mk (HP3.out.setRow (i := 1) rfl #[.int .u32 tt, .int .u32 hh, .slice A1 pn c1, .slice A2 cn c2])
          refine bodyPost_ret (results_ct rfl _ _ B0 _ #[.int .u32 tt, .int .u32 hh, .slice A1 pn c1, .slice A2 cn c2] (0, 0) _ rfl (H9.out.get (i := 1) rfl) Try.underlying26 rfl (delta_info _ _ _ _)) rfl ?_
          refine ⟨?_, by rw [HB0.out]; exact H9.out.bel⟩
          unfold ParseR
          rw [HOK.out.1, if_pos rfl, ← HOK.out.2.1, ← HOK.out.2.2.1, ← HOK.out.2.2.2.1, ← HOK.out.2.2.2.2, HB0.out]
          exact ⟨_, rfl, HOF3.out.setRow9 (HP3.out.get (i := 1) rfl) (by decide) (by decide)⟩
end Go.Proofs.Yticpjidcgaaldaa

namespace Go.Proofs.Yticpjidcgaaldaa
open Go.RowKit Go.Proofs.YticpjidcgaaldaaW.PrintWords Go.Proofs.YticpjidcgaaldaaW.PrintLast Go.Proofs.YticpjidcgaaldaaW.PrintMore
set_option linter.unusedVariables false
set_option linter.unusedSimpArgs false

theorem cut_lh {P : Program} (k kl kh : IntKind) (t e bytes : Nat) (ht : P.underlying t = some (.slice e)) (hinfo : (P.info? e).map (fun i => (i.zero, i.size, i.bytes)) = some (some (.int k 0), 1, bytes)) (A : Option Addr) (n c i j : Nat) (hij : i ≤ j) (hj : j ≤ n) (hc : n ≤ c) :
    ∃ A' : Option Addr, (∀ W : World, (Instr.slice t (.slice A n c) (some (.int kl (i : Int))) (some (.int kh (j : Int))) none).run P W = .ok (.slice A' (j - i) (c - i)) W) ∧
      ∀ (w : World) (xs : List Int), (Kd.int k).C w A n xs → (Kd.int k).C w A' (j - i) ((xs.take j).drop i) := by
  obtain ⟨i0, hi, hzz⟩ := Option.map_eq_some_iff.1 hinfo
  simp only [Prod.mk.injEq] at hzz
  have hel : P.elem t = e := by simp [Program.elem, ht]
  have hu : P.underlying t = some (.slice (P.elem t)) := by rw [hel]; exact ht
  refine ⟨if c = i then A else A.map (·.add i), fun W => ?_, fun w xs h => ?_⟩
  · rw [run_slice_lh W t A n c hu kl kh (i : Int) (j : Int) (Int.natCast_nonneg _) (by omega) (by omega), hel]
    simp [sizeOf, typeInfo, hi, hzz.2.1, sliced, Result.andThen]
  · obtain rfl := h.1
    have := Kd.C_mid h hij hj hc
    have e1 : ((xs.take j).drop i).length = j - i := by rw [List.length_drop, List.length_take]; omega
    rw [e1] at this
    have e2 : (Kd.int k).sz = 1 := rfl
    simpa [e2] using this
end Go.Proofs.Yticpjidcgaaldaa

namespace Go.Proofs.Yticpjidcgaaldaa
open Go.RowKit Go.Proofs.YticpjidcgaaldaaW.PrintWords Go.Proofs.YticpjidcgaaldaaW.PrintLast Go.Proofs.YticpjidcgaaldaaW.PrintMore
set_option linter.unusedVariables false
set_option linter.unusedSimpArgs false

theorem runs_slice {P : Program} {o : Oper} {ρ : Operand → Value} {w : World} {R : Value → World → Prop} (t : TypeId) (x : Operand) (lo hi mx : Option Operand) (ho : o.op = .slice t x lo hi mx) {e : TypeId} (ht : P.underlying t = some (.slice e)) {v : Value}
    (h : (Instr.slice t (ρ x) (lo.map ρ) (hi.map ρ) (mx.map ρ)).run P w = .ok v w) (hR : R v w) : runs P o ρ w R := by
  have hel : P.elem t = e := by simp [Program.elem, ht]
  refine runs_val (v := v) (w' := w) ?_ hR
  unfold execOp
  rw [ho]
  simp only []
  rw [Sem.run_bind, run_sliceAt_slice w t (ρ x) (lo.map ρ) (hi.map ρ) (mx.map ρ) (by rw [hel]; exact ht), h]
  rfl
end Go.Proofs.Yticpjidcgaaldaa

namespace Go.Proofs.Yticpjidcgaaldaa
open Go.RowKit Go.Proofs.YticpjidcgaaldaaW.PrintWords Go.Proofs.YticpjidcgaaldaaW.PrintLast Go.Proofs.YticpjidcgaaldaaW.PrintMore
set_option linter.unusedVariables false
set_option linter.unusedSimpArgs false

def RSt (B gd : Nat) (w0 w : World) (tk hs : Int) (vP vC uP uC : Value) (P : List Int) (C : List S97) : Prop :=
  Hp B w0 w [(gd, .cells #[.int .u32 tk, .int .u32 hs, vP, vC] 37 (0, 0)), (B, .cells #[.int .u32 0, .int .u32 0, .slice none 0 0, .slice none 0 0] 37 (0, 0))] [] ∧
    (Kd.int .u8).R 5 w B (fun _ => True) uP P ∧ k97.R 97 w B (fun _ => True) uC C ∧ B ≤ gd
section
variable {B gd : Nat} {w0 w w' : World} {tk hs : Int} {vP vC uP uC u : Value} {P : List Int} {C : List S97}
theorem RSt.le (h : RSt B gd w0 w tk hs vP vC uP uC P C) : B ≤ w.heap.size := Nat.le_trans h.2.2.2 (Nat.le_of_lt (h.1.lt (i := 0) rfl))
theorem RSt.below (h : RSt B gd w0 w tk hs vP vC uP uC P C) (hb : Below w.heap.size w w') : RSt B gd w0 w' tk hs vP vC uP uC P C :=
  ⟨h.1.call hb, Kd.R_below h.2.1 hb, Kd.R_below h.2.2.1 hb, h.2.2.2⟩
theorem RSt.cellP (h : RSt B gd w0 w tk hs vP vC uP uC P C) : w.cell? ⟨gd, 2, none⟩ = some vP := blk_cell (h.1.get (i := 0) rfl) 2
theorem RSt.cellC (h : RSt B gd w0 w tk hs vP vC uP uC P C) : w.cell? ⟨gd, 3, none⟩ = some vC := blk_cell (h.1.get (i := 0) rfl) 3
theorem RSt.rowP {P' : List Int} (h : RSt B gd w0 w tk hs vP vC uP uC P C) (hg : w.grownBy w' uP.ownBlock) (hr : (Kd.int .u8).R 5 w' B (fun _ => True) u P') : RSt B gd w0 w' tk hs vP vC u uC P' C := by
  have hle := h.le
  obtain ⟨h2, h3, h4, h5⟩ := h
  have hbase : ∀ k, uP.ownBlock = some k → B ≤ k := fun k hk => Kd.R_base h3 k hk
  have hb : Below B w w' := (Below.refl B w).grown hg hle hbase
  have n1 := Kd.R_ne h3 (h2.get (i := 0) rfl) (by decide)
  have n2 := Kd.R_ne h3 (h2.get (i := 1) rfl) (by decide)
  refine ⟨h2.rows (r1 := uP.ownBlock) (r2 := none) hb ((hg.block gd (h2.lt (i := 0) rfl) n1).trans (h2.get (i := 0) rfl)) (fun k hk _ hn _ => hg.block k hk hn) (fun p hp => ?_), hr, Kd.R_grown2 h4 rfl hg (fun k hk => ?_), h5⟩
  · obtain rfl := List.mem_singleton.1 hp
    exact ⟨n2, by simp⟩
  · intro e
    exact ((Kd.R_apartR h3 h4 (by decide)).1 k hk).2 (by rw [e])
theorem RSt.rowC {C' : List S97} (h : RSt B gd w0 w tk hs vP vC uP uC P C) (hg : w.grownBy w' uC.ownBlock) (hr : k97.R 97 w' B (fun _ => True) u C') : RSt B gd w0 w' tk hs vP vC uP u P C' := by
  have hle := h.le
  obtain ⟨h2, h3, h4, h5⟩ := h
  have hbase : ∀ k, uC.ownBlock = some k → B ≤ k := fun k hk => Kd.R_base h4 k hk
  have hb : Below B w w' := (Below.refl B w).grown hg hle hbase
  have n1 := Kd.R_ne h4 (h2.get (i := 0) rfl) (by decide)
  have n2 := Kd.R_ne h4 (h2.get (i := 1) rfl) (by decide)
  refine ⟨h2.rows (r1 := uC.ownBlock) (r2 := none) hb ((hg.block gd (h2.lt (i := 0) rfl) n1).trans (h2.get (i := 0) rfl)) (fun k hk _ hn _ => hg.block k hk hn) (fun p hp => ?_), Kd.R_grown2 h3 rfl hg (fun k hk => ?_), hr, h5⟩
  · obtain rfl := List.mem_singleton.1 hp
    exact ⟨n2, by simp⟩
  · intro e
    exact ((Kd.R_apartR h3 h4 (by decide)).1 k (by rw [← e])).2 hk.symm
theorem RSt.setP (h : RSt B gd w0 w tk hs vP vC uP uC P C) : RSt B gd w0 (w.setCell ⟨gd, 2, none⟩ uP) tk hs uP vC uP uC P C := by
  obtain ⟨h2, h3, h4, h5⟩ := h
  have n1 := Kd.R_ne h3 (h2.get (i := 0) rfl) (by decide)
  have n2 := Kd.R_ne h4 (h2.get (i := 0) rfl) (by decide)
  exact ⟨h2.setCell (i := 0) rfl 2 uP, Kd.R_grown2 h3 rfl (grown_setCell _ _ _ _) (fun k hk => by cases hk; exact n1), Kd.R_grown2 h4 rfl (grown_setCell _ _ _ _) (fun k hk => by cases hk; exact n2), h5⟩
theorem RSt.setC (h : RSt B gd w0 w tk hs vP vC uP uC P C) : RSt B gd w0 (w.setCell ⟨gd, 3, none⟩ uC) tk hs vP uC uP uC P C := by
  obtain ⟨h2, h3, h4, h5⟩ := h
  have n1 := Kd.R_ne h3 (h2.get (i := 0) rfl) (by decide)
  have n2 := Kd.R_ne h4 (h2.get (i := 0) rfl) (by decide)
  exact ⟨h2.setCell (i := 0) rfl 3 uC, Kd.R_grown2 h3 rfl (grown_setCell _ _ _ _) (fun k hk => by cases hk; exact n1), Kd.R_grown2 h4 rfl (grown_setCell _ _ _ _) (fun k hk => by cases hk; exact n2), h5⟩
end
theorem value_l0 (l : List Int) (hl : l.length ≤ 8) (hb : Bytes l) : ∀ (i k : Nat) (acc : Int), i ≤ l.length → i < k → acc = leN (l.drop i) → hoodwinkref01_Value.l0 k l acc (wrap64 ((i : Int) - 1)) = some (leN l)
  | 0, k + 1, acc, hi, hk, ha => by
    unfold hoodwinkref01_Value.l0
    rw [if_neg (by unfold wrap64; omega), ha]
    simp
  | i + 1, k + 1, acc, hi, hk, ha => by
    have hlt : i < l.length := by omega
    have e1 : wrap64 (((i + 1 : Nat) : Int) - 1) = (i : Int) := by unfold wrap64; omega
    unfold hoodwinkref01_Value.l0
    rw [e1]
    have hx := hb _ (List.getElem_mem hlt)
    have h1 := leN_bd (fun x hx => hb x (List.mem_of_mem_drop hx) : Bytes (l.drop (i + 1)))
    have h2 : (256 : Int) ^ (l.drop (i + 1)).length ≤ 72057594037927936 := by
      have h3 : (l.drop (i + 1)).length ≤ 7 := by rw [List.length_drop]; omega
      generalize (l.drop (i + 1)).length = j at h3 ⊢
      match j, h3 with
      | 0, _ => decide
      | 1, _ => decide
      | 2, _ => decide
      | 3, _ => decide
      | 4, _ => decide
      | 5, _ => decide
      | 6, _ => decide
      | 7, _ => decide
    rw [← ha] at h1
    rw [if_pos (by omega), if_pos (by omega), if_pos (by omega), rd_getElem hlt, IntWalk.u64_in (256 * acc) (by omega), IntWalk.u64_in l[i] (by omega), IntWalk.u64_in _ (by omega)]
    refine value_l0 l hl hb i k _ (by omega) (by omega) ?_
    rw [List.drop_eq_getElem_cons hlt, ha]
    simp only [leN]
    omega
theorem value_any (A : Option Addr) (n c : Nat) (l : List Int) (w : World) (hr : (Kd.int .u8).C w A n l) (hc : n ≤ c) (hn : n ≤ 8) (hb : Bytes l) :
    Calls Try.prog 51 #[.slice A n c] w fun e w' => e = .returned (.int .u64 (leN l)) ∧ Drawn0 w w' := by
  obtain rfl := hr.1
  exact hoodwinkref01_Value.calls (l.length + 1) A c l _ w hr hc (value_l0 l hn hb l.length (l.length + 1) 0 (Nat.le_refl _) (by omega) (by rw [List.drop_of_length_le (Nat.le_refl _)]; rfl))
end Go.Proofs.Yticpjidcgaaldaa

namespace Go.Proofs.Yticpjidcgaaldaa
open Go.RowKit Go.Proofs.YticpjidcgaaldaaW.PrintWords Go.Proofs.YticpjidcgaaldaaW.PrintLast Go.Proofs.YticpjidcgaaldaaW.PrintMore
set_option linter.unusedVariables false
set_option linter.unusedSimpArgs false

theorem cut_h {P : Program} (k kh : IntKind) (t e bytes : Nat) (ht : P.underlying t = some (.slice e)) (hinfo : (P.info? e).map (fun i => (i.zero, i.size, i.bytes)) = some (some (.int k 0), 1, bytes)) (A : Option Addr) (n c j : Nat) (hj : j ≤ n) (hc : n ≤ c) :
    (∀ W : World, (Instr.slice t (.slice A n c) none (some (.int kh (j : Int))) none).run P W = .ok (.slice A j c) W) ∧
      (∀ (w : World) (xs : List Int), (Kd.int k).C w A n xs → (Kd.int k).C w A j (xs.take j)) := by
  obtain ⟨i0, hi, hzz⟩ := Option.map_eq_some_iff.1 hinfo
  simp only [Prod.mk.injEq] at hzz
  have hel : P.elem t = e := by simp [Program.elem, ht]
  have hu : P.underlying t = some (.slice (P.elem t)) := by rw [hel]; exact ht
  have ha : (A.map fun x => x.add 0) = A := by cases A <;> simp [Addr.add]
  refine ⟨fun W => ?_, fun w xs h => ?_⟩
  · rw [run_slice_h W t A n c hu kh (j : Int) (Int.natCast_nonneg _) (by omega), hel]
    simp [sizeOf, typeInfo, hi, hzz.2.1, sliced, Result.andThen, ha]
  · obtain rfl := h.1
    exact Kd.C_of_reads ((Kd.reads_of_C (d := (0 : Int)) h).take_ j hj)
def RfR (b : Nat) (w : World) (tk hs : Int) (P : List Int) (R : List S97) (v : Value) : Prop :=
  ∃ A c A2 c2, v = .agg #[.int .u32 tk, .int .u32 hs, .slice A P.length c, .slice A2 R.length c2] ∧ P.length ≤ c ∧ R.length ≤ c2 ∧ (Kd.int .u8).R 5 w b (fun _ => True) (.slice A P.length c) P ∧ k97.R 97 w b (fun _ => True) (.slice A2 R.length c2) R
theorem RfR.belowR {b : Nat} {w w' : World} {tk hs : Int} {P : List Int} {C : List S97} {v : Value} (h : RfR b w tk hs P C v) (hb : Below w.heap.size w w') : RfR b w' tk hs P C v := by
  obtain ⟨A, c, A2, c2, e, h1, h2, h3, h4⟩ := h
  exact ⟨A, c, A2, c2, e, h1, h2, Kd.R_below h3 hb, Kd.R_below h4 hb⟩
theorem RfR.cells {b : Nat} {w : World} {tk hs : Int} {P : List Int} {C : List S97} {v : Value} (h : RfR b w tk hs P C v) : DrC w tk hs P C v := by
  obtain ⟨A, c, A2, c2, e, k1, k2, h3, h4⟩ := h
  exact ⟨A, c, A2, c2, e, k1, k2, (Ru_C h3).2.2, (Ru_C h4).2.2⟩
end Go.Proofs.Yticpjidcgaaldaa

namespace Go.Proofs.Yticpjidcgaaldaa
open Go.RowKit Go.Proofs.YticpjidcgaaldaaW.PrintWords Go.Proofs.YticpjidcgaaldaaW.PrintLast Go.Proofs.YticpjidcgaaldaaW.PrintMore
set_option linter.unusedVariables false
set_option linter.unusedSimpArgs false

end Go.Proofs.Yticpjidcgaaldaa

namespace Go.Proofs.Yticpjidcgaaldaa
open Go.RowKit Go.Proofs.YticpjidcgaaldaaW.PrintWords Go.Proofs.YticpjidcgaaldaaW.PrintLast Go.Proofs.YticpjidcgaaldaaW.PrintMore
set_option linter.unusedVariables false
set_option linter.unusedSimpArgs false

end Go.Proofs.Yticpjidcgaaldaa

namespace Go.Proofs.Yticpjidcgaaldaa
open Go.RowKit Go.Proofs.YticpjidcgaaldaaW.PrintWords Go.Proofs.YticpjidcgaaldaaW.PrintLast Go.Proofs.YticpjidcgaaldaaW.PrintMore
set_option linter.unusedVariables false
set_option linter.unusedSimpArgs false

theorem cut_l0 (l : List Int) (m : Nat) (hl : min m l.length < 140737488355328) (hn : l.length ≤ 9223372036854775807) : ∀ (d k i : Nat), i + d = l.length → d < k →
    hoodwinkref01_Cut.l0 k (m : Int) (l.take (min i m)) l (l.length : Int) (i : Int) = some (l.take m)
  | 0, k, i, hi, hk => by
    obtain ⟨k, rfl⟩ : ∃ q, k = q + 1 := ⟨k - 1, by omega⟩
    simp only [hoodwinkref01_Cut.l0]
    rw [if_neg (by omega), takes (by omega : min (min i m) l.length = min m l.length)]
  | d + 1, k, i, hi, hk => by
    obtain ⟨k, rfl⟩ : ∃ q, k = q + 1 := ⟨k - 1, by omega⟩
    have hil : i < l.length := by omega
    have ih := cut_l0 l m hl hn d k (i + 1) (by omega) (by omega)
    simp only [hoodwinkref01_Cut.l0]
    rw [if_pos (by omega), if_pos (by omega), if_pos (by omega), next64 (by omega)]
    by_cases h : i < m
    · rw [if_pos (by omega), if_pos (by rw [List.length_take]; omega), rd_getElem hil, ← ih]
      rw [show min i m = i by omega, show min (i + 1) m = i + 1 by omega, take_snoc hil]
    · rw [if_neg (by omega), ← ih, show min (i + 1) m = min i m by omega]
theorem cut_f (l : List Int) (m : Int) (hm : 0 ≤ m) (hl : m ≤ 140737488351232) (hn : l.length ≤ 9223372036854775807) : hoodwinkref01_Cut.f (l.length + 1) l m = some (l.take m.toNat) := by
  have := cut_l0 l m.toNat (by omega) hn l.length (l.length + 1) 0 (by omega) (by omega)
  rw [Int.toNat_of_nonneg hm] at this
  simpa [hoodwinkref01_Cut.f] using this
theorem cut_any (A : Option Addr) (n c : Nat) (l : List Int) (m : Int) (w : World) (hr : (Kd.int .u8).C w A n l) (hc : n ≤ c) (hm : 0 ≤ m ∧ m ≤ 140737488351232) :
    Calls Try.prog 12 #[.slice A n c, .int .i64 m] w fun e w' => ∃ v, e = .returned v ∧ (Kd.int .u8).R 5 w' w.heap.size (fun _ => True) v (l.take m.toNat) ∧ Below w.heap.size w w' := by
  have hn := hr.2.1
  obtain rfl := hr.1
  exact hoodwinkref01_Cut.calls (l.length + 1) A c l m _ w hr hc (cut_f l m hm.1 hm.2 hn)
end Go.Proofs.Yticpjidcgaaldaa

namespace Go.Proofs.Yticpjidcgaaldaa
open Go.RowKit Go.Proofs.YticpjidcgaaldaaW.PrintWords Go.Proofs.YticpjidcgaaldaaW.PrintLast Go.Proofs.YticpjidcgaaldaaW.PrintMore
set_option linter.unusedVariables false
set_option linter.unusedSimpArgs false

def TG (w w' : World) : Prop := ∃ x, w.grownBy w' x ∧ ∀ b, x = some b → ∃ cs T fr, w.heap[b]? = some (.cells cs T fr) ∧ 5 ≠ T ∧ fr = (0, 0)
theorem TG.row {w w' : World} {b : Nat} {v : Value} {P : List Int} (ht : TG w w') (h : (Kd.int .u8).R 5 w b (fun _ => True) v P) : (Kd.int .u8).R 5 w' b (fun _ => True) v P := by
  obtain ⟨x, hx, hn⟩ := ht
  refine Kd.R_grown2 h rfl hx fun k hk => ?_
  obtain ⟨cs, T, fr, h1, h2, rfl⟩ := hn k hk
  exact Kd.R_ne h h1 h2
def SSt (B : Nat) (w0 w : World) (tk hs : Int) (vP vC : Value) : Prop :=
  Hp B w0 w [(B + 1, .cells #[.int .u32 0, .int .u32 0, .slice none 0 0, .slice none 0 0] 26 (0, 0)), (B, .cells #[.int .u32 tk, .int .u32 hs, vP, vC] 26 (0, 0))] []
theorem SSt.below {B : Nat} {w0 w w' : World} {tk hs : Int} {vP vC : Value} (h : SSt B w0 w tk hs vP vC) (hb : Below w.heap.size w w') : SSt B w0 w' tk hs vP vC := Hp.call h hb

end Go.Proofs.Yticpjidcgaaldaa

namespace Go.Proofs.Yticpjidcgaaldaa
open Go.RowKit Go.Proofs.YticpjidcgaaldaaW.PrintWords Go.Proofs.YticpjidcgaaldaaW.PrintLast Go.Proofs.YticpjidcgaaldaaW.PrintMore
set_option linter.unusedVariables false
set_option linter.unusedSimpArgs false

theorem leN_low : ∀ (s x : Nat), x < 256 ^ s → leN (lowN x s) = (x : Int)
  | 0, x, h => by
    have : x = 0 := by simpa using h
    subst this; rfl
  | s + 1, x, h => by
    have h1 : x / 256 < 256 ^ s := by rw [Nat.pow_succ] at h; exact Nat.div_lt_of_lt_mul (by omega)
    have := leN_low s (x / 256) h1
    simp only [lowN, leN, this]
    omega
def I32p (n : Int) : Prop := -2147483648 ≤ n ∧ n < 2147483648
end Go.Proofs.Yticpjidcgaaldaa

namespace Go.Proofs.Yticpjidcgaaldaa
open Go.RowKit Go.Proofs.YticpjidcgaaldaaW.PrintWords Go.Proofs.YticpjidcgaaldaaW.PrintLast Go.Proofs.YticpjidcgaaldaaW.PrintMore
set_option linter.unusedVariables false
set_option linter.unusedSimpArgs false

structure S26 where
  f0 : Int
  f1 : Int
  f2 : List Int
  f3 : List S59
def pbD (tk hs : Nat) (P : List Int) (C : List S59) : List Int := if rightB P C.length = true then dBytes tk hs P C else []
theorem pbytes7_any (tk hs : Nat) (P : List Int) (C : List S59) (v : Value) (w : World) (hv : DvC w tk hs P C v) (hP : Bytes P) (hl : P.length < 4611686018427387904) (htk : tk < 4294967296) (hhs : hs < 4294967296) (hU : ∀ x ∈ C, U32 x.f1) :
    Calls Try.prog 41 #[v] w fun e w' => ∃ v', e = .returned v' ∧ (Kd.int .u8).R 5 w' w.heap.size (fun _ => True) v' (pbD tk hs P C) ∧ Below w.heap.size w w' := by
  obtain ⟨A, c, A2, c2, rfl, h2, h3, h4, h5⟩ := hv
  unfold pbD
  by_cases hr : rightB P C.length = true
  · rw [if_pos hr]
    exact dbytes_yes tk hs A A2 _ c _ c2 P C w h4 h2 h5 h3 hr htk hhs hU
  · rw [if_neg hr]
    refine (dbytes_no tk hs A A2 _ c _ c2 P C w h4 h2 h5 h3 hP hl (by simpa using hr)).mono ?_
    rintro e w' ⟨rfl, hb⟩
    exact ⟨_, rfl, Kd.R_nil _ _ _ _ _, hb⟩
theorem dBytes_ge (tk hs : Nat) (P : List Int) (C : List S59) : 9 ≤ (dBytes tk hs P C).length := by
  unfold dBytes dHead
  simp only [List.length_append, lowN_length, List.length_cons, List.length_nil]
  omega
theorem pbD_le (tk hs : Nat) (P : List Int) (C : List S59) : (pbD tk hs P C).length ≤ 9 + 9 * P.length := by
  unfold pbD; split
  · have := dRows_len P C
    unfold dBytes dHead
    simp only [List.length_append, lowN_length, List.length_cons, List.length_nil]
    omega
  · simp
theorem pbD_pos (tk hs : Nat) (P : List Int) (C : List S59) : decide (0 < (pbD tk hs P C).length) = rightB P C.length := by
  unfold pbD
  by_cases hr : rightB P C.length = true
  · rw [if_pos hr, hr]; exact decide_eq_true (by have := dBytes_ge tk hs P C; omega)
  · rw [if_neg hr]
    have : rightB P C.length = false := by simpa using hr
    rw [this]; rfl
def tkQ (q : List Int) : Int := if okD q = true then leN (q.take 4) else 0
def hsQ (q : List Int) : Int := if okD q = true then leN ((q.drop 4).take 4) else 0
def plQ (q : List Int) : List Int := if okD q = true then pL (q.drop 9) (cntD q) else []
def clQ (q : List Int) : List S59 := if okD q = true then cL (q.drop 9) (cntD q) else []
def ecD (q : List Int) : Int := if okD q = true then 0 else 2
theorem R_put8 {w : World} {b g n c : Nat} {l : List Int} {j : Nat} {x : Int} (h : (Kd.int .u8).R 5 w b (fun _ => True) (.slice (some ⟨g, 0, none⟩) n c) l) (hj : j < l.length) :
    (Kd.int .u8).R 5 (w.setCell ⟨g, j, none⟩ (.int .u8 x)) b (fun _ => True) (.slice (some ⟨g, 0, none⟩) n c) (l.set j x) := by
  have hown := Kd.own_of_R (enc := Value.int .u8) (h1 := fun _ => rfl) h
  have hn : l.length = n := (Ru_C h).1
  subst hn
  have hst := (own_store (k := .u8) hown (j : Int) x).1
  rw [Int.toNat_natCast] at hst
  exact Kd.R_of_own (enc := Value.int .u8) (h1 := fun _ => rfl) (xs := l.set j x) (by rw [List.length_set]; exact hst) (fun _ _ => trivial)
end Go.Proofs.Yticpjidcgaaldaa

namespace Go.Proofs.Yticpjidcgaaldaa
open Go.RowKit Go.Proofs.YticpjidcgaaldaaW.PrintWords Go.Proofs.YticpjidcgaaldaaW.PrintLast Go.Proofs.YticpjidcgaaldaaW.PrintMore
set_option linter.unusedVariables false
set_option linter.unusedSimpArgs false

theorem take_eq_succ {α : Type} {L M : List α} {i : Nat} (h : L.take i = M.take i) (hl : i < L.length) (hm : i < M.length) (he : L[i] = M[i]) : L.take (i + 1) = M.take (i + 1) := by
  rw [take_snoc hl, take_snoc hm, h, he]
set_option maxRecDepth 100000 in
set_option maxHeartbeats 8000000 in
theorem cequalG_any (A A2 : Option Addr) (n m c c2 : Nat) (L M : List S59) (w00 : World) (h1 : k59.C w00 A n L) (h2 : k59.C w00 A2 m M) (hn : n ≤ 1000000) (hm : m ≤ 1000000) (β : Bool) (hβ : β = true ↔ L = M) :
    Calls Try.prog 76 #[.slice A n c, .slice A2 m c2] w00 fun e w' => e = .returned (.bool β) ∧ Below w00.heap.size w00 w' := by
  by_cases hnm : n = m
  · subst hnm
    have HL := Aside0.mk (And.intro h1.1 h2.1)
    have HN := Aside0.mk hn
    have HF : Aside0 (∀ z, Below w00.heap.size w00 z → k59.C z A n L ∧ k59.C z A2 n M) := ⟨fun z hz => ⟨Kd.C_below h1 hz, Kd.C_below h2 hz⟩⟩
    clear h1 h2 hn hm
    obtain ⟨B, hB⟩ : ∃ B, w00.heap.size = B := ⟨_, rfl⟩
    have HB := Aside0.mk hB
    rw [hB] at HF
    rw [hB]
    have HBE := Aside0.mk hβ
    clear hB hβ
    go_enter Try.func76, Try.ntmps76
    go_wp2_with fail
    have H0 : Aside0 (Below B w00 w00 ∧ B ≤ w00.heap.size ∧ L.take 0 = M.take 0) := ⟨Below.refl _ _, by rw [HB.out]; exact Nat.le_refl _, rfl⟩
    go_loopw [13] (fun v13 wr => ∃ i : Nat, i ≤ n ∧ v13 = .int .i64 i ∧ Aside0 (Below B w00 wr ∧ B ≤ wr.heap.size ∧ L.take i = M.take i)) (fun v13 _ => n - (intOf v13).toNat)
    case atStart => exact ⟨0, by omega, rfl, H0⟩
    case round =>
      clear H0
      obtain ⟨i, hi, rfl, H⟩ := hrel
      by_cases hlt : i < n
      · have d1 : decide (i < n) = true := decide_eq_true hlt
        have hiL : i < L.length := by rw [HL.out.1]; exact hlt
        have hiM : i < M.length := by rw [HL.out.2]; exact hlt
        obtain ⟨a, hA, p0, p1⟩ := cell_at25 (HF.out wr H.out.1).1 hiL
        obtain ⟨a2, hA2, q0, q1⟩ := cell_at25 (HF.out wr H.out.1).2 hiM
        subst hA hA2
        have HX : Aside0 (L = M → L[i] = M[i]) := ⟨fun e => by subst e; rfl⟩
        have HY : Aside0 (L[i] = M[i] → L.take (i + 1) = M.take (i + 1)) := ⟨fun e => take_eq_succ H.out.2.2 hiL hiM e⟩
        generalize L[i] = x at p0 p1 HX HY
        generalize M[i] = y at q0 q1 HX HY
        obtain ⟨x0, x1⟩ := x
        obtain ⟨y0, y1⟩ := y
        have hi0 : (0 : Int) ≤ i := by omega
        have hin : (i : Int) < n := by omega
        have PP := Aside0.mk (And.intro p0 (And.intro p1 (And.intro q0 q1)))
        clear p0 p1 q0 q1
        obtain ⟨ν, hν⟩ : ∃ ν : Bool, ν = !(x0 == y0 && x1 == y1) := ⟨_, rfl⟩
        have HNU := Aside0.mk hν
        clear hν
        go_wp2_with fail
        refine region_grown (W := wr)
          [fun (w : World) (v : Value) => v = .slice (some a) n c,
           fun (w : World) (v : Value) => v = .int .i64 i,
           fun (w : World) (v : Value) => v = .pointer (some (a.add (i * 2))),
           fun (w : World) (v : Value) => v = .agg #[.int .i32 x0, .int .u32 x1],
           fun (w : World) (v : Value) => v = .slice (some a2) n c2,
           fun (w : World) (v : Value) => v = .int .i64 i,
           fun (w : World) (v : Value) => v = .pointer (some (a2.add (i * 2))),
           fun (w : World) (v : Value) => v = .agg #[.int .i32 y0, .int .u32 y1],
           fun (w : World) (v : Value) => v = .bool ν]
          (fun j =>  none)
          [(0, some 16), (1, some 17), (2, some 18), (3, some 19), (4, some 20), (5, some 21), (6, some 22), (7, some 23), (8, some 24)]
          []
          (by kernel_rfl) (by kernel_rfl) (by kernel_rfl) (by kernel_rfl) ?r6_1g ?r6_1s ⟨?r6_1o0, ?r6_1o1, ?r6_1o2, ?r6_1o3, ?r6_1o4, ?r6_1o5, ?r6_1o6, ?r6_1o7, ?r6_1o8, trivial⟩ ?r6_1e
        case r6_1g =>
          intro j hj; cases hj
        case r6_1s =>
          refine ⟨(fun w w' v hb h => h), (fun w w' v hb h => h), (fun w w' v hb h => h), (fun w w' v hb h => h), (fun w w' v hb h => h), (fun w w' v hb h => h), (fun w w' v hb h => h), (fun w w' v hb h => h), (fun w w' v hb h => h), trivial⟩
        case r6_1o0 =>
          intro vs w hb hV
          rw [if_pos (by kernel_rfl)]
          generalize hρ : rho _ _ _ vs = ρ
          have e0 : ρ (.tmp 0) = .slice (some a) n c := by rw [← hρ]; kernel_rfl
          clear hρ hV
          refine runs_val (v := .slice (some a) n c) (w' := w) ?_ ⟨Below.refl _ _, rfl⟩
          go_simp <;> (first | exact IntWalk.u64_in _ (by omega) | exact IntWalk.u32_in _ (by omega) | exact IntWalk.u16_in _ (by omega) | exact IntWalk.u8_in _ (by omega) | exact IntWalk.i64_in _ (by omega) | skip)
        case r6_1o1 =>
          intro vs w hb hV
          rw [if_pos (by kernel_rfl)]
          generalize hρ : rho _ _ _ vs = ρ
          have e5 : ρ (.tmp 5) = .int .i64 i := by rw [← hρ]; kernel_rfl
          clear hρ hV
          refine runs_val (v := .int .i64 i) (w' := w) ?_ ⟨Below.refl _ _, rfl⟩
          go_simp <;> (first | exact IntWalk.u64_in _ (by omega) | exact IntWalk.u32_in _ (by omega) | exact IntWalk.u16_in _ (by omega) | exact IntWalk.u8_in _ (by omega) | exact IntWalk.i64_in _ (by omega) | skip)
        case r6_1o2 =>
          intro vs w hb hV
          rw [if_pos (by kernel_rfl)]
          generalize hρ : rho _ _ _ vs = ρ
          have d16 : (vs 0) = .slice (some a) n c := hV 0 (by kernel_rfl)
          have e16 : ρ (.tmp 16) = vs 0 := by rw [← hρ]; kernel_rfl
          rw [d16] at e16; clear d16
          have d17 : (vs 1) = .int .i64 i := hV 1 (by kernel_rfl)
          have e17 : ρ (.tmp 17) = vs 1 := by rw [← hρ]; kernel_rfl
          rw [d17] at e17; clear d17
          clear hρ hV
          refine runs_val (v := .pointer (some (a.add (i * 2)))) (w' := w) ?_ ⟨Below.refl _ _, rfl⟩
          go_simp <;> (first | exact IntWalk.u64_in _ (by omega) | exact IntWalk.u32_in _ (by omega) | exact IntWalk.u16_in _ (by omega) | exact IntWalk.u8_in _ (by omega) | exact IntWalk.i64_in _ (by omega) | skip)
        case r6_1o3 =>
          intro vs w hb hV
          rw [if_pos (by kernel_rfl)]
          generalize hρ : rho _ _ _ vs = ρ
          have d18 : (vs 2) = .pointer (some (a.add (i * 2))) := hV 2 (by kernel_rfl)
          have e18 : ρ (.tmp 18) = vs 2 := by rw [← hρ]; kernel_rfl
          rw [d18] at e18; clear d18
          clear hρ hV
          have c0 := pw_cell_below hb PP.out.1
          have c1 := pw_cell_below hb PP.out.2.1
          refine runs_val (v := .agg #[.int .i32 x0, .int .u32 x1]) (w' := w) ?_ ⟨Below.refl _ _, rfl⟩
          go_simp
        case r6_1o4 =>
          intro vs w hb hV
          rw [if_pos (by kernel_rfl)]
          generalize hρ : rho _ _ _ vs = ρ
          have e1 : ρ (.tmp 1) = .slice (some a2) n c2 := by rw [← hρ]; kernel_rfl
          clear hρ hV
          refine runs_val (v := .slice (some a2) n c2) (w' := w) ?_ ⟨Below.refl _ _, rfl⟩
          go_simp <;> (first | exact IntWalk.u64_in _ (by omega) | exact IntWalk.u32_in _ (by omega) | exact IntWalk.u16_in _ (by omega) | exact IntWalk.u8_in _ (by omega) | exact IntWalk.i64_in _ (by omega) | skip)
        case r6_1o5 =>
          intro vs w hb hV
          rw [if_pos (by kernel_rfl)]
          generalize hρ : rho _ _ _ vs = ρ
          have e5 : ρ (.tmp 5) = .int .i64 i := by rw [← hρ]; kernel_rfl
          clear hρ hV
          refine runs_val (v := .int .i64 i) (w' := w) ?_ ⟨Below.refl _ _, rfl⟩
          go_simp <;> (first | exact IntWalk.u64_in _ (by omega) | exact IntWalk.u32_in _ (by omega) | exact IntWalk.u16_in _ (by omega) | exact IntWalk.u8_in _ (by omega) | exact IntWalk.i64_in _ (by omega) | skip)
        case r6_1o6 =>
          intro vs w hb hV
          rw [if_pos (by kernel_rfl)]
          generalize hρ : rho _ _ _ vs = ρ
          have d20 : (vs 4) = .slice (some a2) n c2 := hV 4 (by kernel_rfl)
          have e20 : ρ (.tmp 20) = vs 4 := by rw [← hρ]; kernel_rfl
          rw [d20] at e20; clear d20
          have d21 : (vs 5) = .int .i64 i := hV 5 (by kernel_rfl)
          have e21 : ρ (.tmp 21) = vs 5 := by rw [← hρ]; kernel_rfl
          rw [d21] at e21; clear d21
          clear hρ hV
          refine runs_val (v := .pointer (some (a2.add (i * 2)))) (w' := w) ?_ ⟨Below.refl _ _, rfl⟩
          go_simp <;> (first | exact IntWalk.u64_in _ (by omega) | exact IntWalk.u32_in _ (by omega) | exact IntWalk.u16_in _ (by omega) | exact IntWalk.u8_in _ (by omega) | exact IntWalk.i64_in _ (by omega) | skip)
        case r6_1o7 =>
          intro vs w hb hV
          rw [if_pos (by kernel_rfl)]
          generalize hρ : rho _ _ _ vs = ρ
          have d22 : (vs 6) = .pointer (some (a2.add (i * 2))) := hV 6 (by kernel_rfl)
          have e22 : ρ (.tmp 22) = vs 6 := by rw [← hρ]; kernel_rfl
          rw [d22] at e22; clear d22
          clear hρ hV
          have c0 := pw_cell_below hb PP.out.2.2.1
          have c1 := pw_cell_below hb PP.out.2.2.2
          refine runs_val (v := .agg #[.int .i32 y0, .int .u32 y1]) (w' := w) ?_ ⟨Below.refl _ _, rfl⟩
          go_simp
        case r6_1o8 =>
          intro vs w hb hV
          rw [if_pos (by kernel_rfl)]
          generalize hρ : rho _ _ _ vs = ρ
          have d19 : (vs 3) = .agg #[.int .i32 x0, .int .u32 x1] := hV 3 (by kernel_rfl)
          have e19 : ρ (.tmp 19) = vs 3 := by rw [← hρ]; kernel_rfl
          rw [d19] at e19; clear d19
          have d23 : (vs 7) = .agg #[.int .i32 y0, .int .u32 y1] := hV 7 (by kernel_rfl)
          have e23 : ρ (.tmp 23) = vs 7 := by rw [← hρ]; kernel_rfl
          rw [d23] at e23; clear d23
          clear hρ hV
          refine runs_val (v := .bool ν) (w' := w) ?_ ⟨Below.refl _ _, rfl⟩
          rw [HNU.out]
          go_simp
          by_cases q0 : x0 = y0 <;> by_cases q1 : x1 = y1 <;> simp [q0, q1]
        case r6_1e =>
          intro vs w2 hb2 hV
          have d16 : (vs 0) = .slice (some a) n c := hV 0 (Nat.le_of_ble_eq_true rfl)
          have d17 : (vs 1) = .int .i64 i := hV 1 (Nat.le_of_ble_eq_true rfl)
          have d18 : (vs 2) = .pointer (some (a.add (i * 2))) := hV 2 (Nat.le_of_ble_eq_true rfl)
          have d19 : (vs 3) = .agg #[.int .i32 x0, .int .u32 x1] := hV 3 (Nat.le_of_ble_eq_true rfl)
          have d20 : (vs 4) = .slice (some a2) n c2 := hV 4 (Nat.le_of_ble_eq_true rfl)
          have d21 : (vs 5) = .int .i64 i := hV 5 (Nat.le_of_ble_eq_true rfl)
          have d22 : (vs 6) = .pointer (some (a2.add (i * 2))) := hV 6 (Nat.le_of_ble_eq_true rfl)
          have d23 : (vs 7) = .agg #[.int .i32 y0, .int .u32 y1] := hV 7 (Nat.le_of_ble_eq_true rfl)
          have d24 : (vs 8) = .bool ν := hV 8 (Nat.le_of_ble_eq_true rfl)
          clear hV
          simp only [putAll]
          rw [d16, d17, d18, d19, d20, d21, d22, d23, d24]
          clear d16 d17 d18 d19 d20 d21 d22 d23 d24
          clear vs
          simp only [Act.put, List.setIfInBounds_toArray, List.set_cons_zero, List.set_cons_succ]
          have HE0 := Aside0.mk (And.intro (H.out.1.trans (hb2.mono H.out.2.1)) (Nat.le_trans H.out.2.1 hb2.size))
          clear hb2 H PP
          cases ν with
          | true =>
            have HBF : Aside0 (β = false) := ⟨by
              rw [Bool.eq_false_iff]
              intro e
              have e2 := HX.out (HBE.out.1 e)
              injection e2 with e3 e4
              have := HNU.out
              rw [e3, e4] at this
              simp at this⟩
            go_wp2_with fail
            go_ret
            rw [HBF.out]
            exact ⟨rfl, HE0.out.1⟩
          | false =>
            have HE : Aside0 (Below B w00 w2 ∧ B ≤ w2.heap.size ∧ L.take (i + 1) = M.take (i + 1)) := ⟨HE0.out.1, HE0.out.2, HY.out (by
              have := HNU.out
              simp at this
              rw [this.1, this.2])⟩
            clear HE0 HX HY HNU
            go_wp2_with fail
            go_roundw
            case rel => exact ⟨i + 1, by omega, by rw [next64 (by have := HN.out; omega)], HE⟩
            case measure => rw [next64 (by have := HN.out; omega)]; simp [intOf]; omega
      · obtain rfl : i = n := by omega
        have d1 : decide (i < i) = false := decide_eq_false (by omega)
        have HT : Aside0 (β = true) := ⟨HBE.out.2 (by have := H.out.2.2; rwa [List.take_of_length_le (by have := HL.out; omega), List.take_of_length_le (by have := HL.out; omega)] at this)⟩
        go_wp2_with fail
        go_ret
        rw [HT.out]
        exact ⟨rfl, H.out.1⟩
  · have hb : β = false := by
      rw [Bool.eq_false_iff]
      intro e
      exact hnm (by rw [← h1.1, ← h2.1, hβ.1 e])
    subst hb
    have hne : (n : Int) ≠ m := by omega
    clear h1 h2 hβ
    go_enter Try.func76, Try.ntmps76
    go_wp2_with fail
    go_ret
    exact ⟨rfl, Below.refl _ _⟩
theorem bytes_back : ∀ {a : List Int}, Bytes a → (a.map fun x => UInt8.ofNat x.toNat).map (fun b => (b.toNat : Int)) = a
  | [], _ => rfl
  | x :: l, h => by
    have hx := h x List.mem_cons_self
    rw [List.map_cons, List.map_cons, bytes_back (fun y hy => h y (List.mem_cons_of_mem _ hy))]
    congr 1
    rw [UInt8.toNat_ofNat_of_lt' (by show x.toNat < 256; omega)]
    omega
theorem strOf_inj {a b : List Int} (ha : Bytes a) (hb : Bytes b) (h : (strOfNums a).toList = (strOfNums b).toList) : a = b := by
  rw [Go.Lib.toList_data, Go.Lib.toList_data] at h
  rw [← bytes_back ha, ← bytes_back hb, Go.Lib.Lz.strOfNums_map, Go.Lib.Lz.strOfNums_map] at h
  have h2 : (a.map fun x => UInt8.ofNat x.toNat) = (b.map fun x => UInt8.ofNat x.toNat) := by simpa using h
  rw [← bytes_back ha, ← bytes_back hb, h2]
theorem bequalG_any (A B : Option Addr) (n m c d : Nat) (P Q : List Int) (w : World) (h1 : (Kd.int .u8).C w A n P) (hc : n ≤ c) (h2 : (Kd.int .u8).C w B m Q) (hd : m ≤ d) (hP : Bytes P) (hQ : Bytes Q) (β : Bool) (hβ : β = true ↔ P = Q) :
    Calls Try.prog 66 #[.slice A n c, .slice B m d] w fun e w' => e = .returned (.bool β) ∧ Below w.heap.size w w' := by
  obtain rfl := h1.1
  obtain rfl := h2.1
  refine (bytes_Equal.calls A c P B d Q β w h1 hc h2 hd (by
    unfold bytes_Equal.f
    congr 1
    rw [Bool.eq_iff_iff, hβ, beq_iff_eq]
    exact ⟨fun h => strOf_inj hP hQ h, fun h => by rw [h]⟩)).mono ?_
  rintro e w5 ⟨rfl, hb⟩
  exact ⟨rfl, by first | exact hb.below | exact hb⟩
set_option maxRecDepth 100000 in
set_option maxHeartbeats 8000000 in
theorem dsameG_any (tk hs tk' hs' : Int) (P P' : List Int) (R R' : List S59) (v u : Value) (w00 : World) (hv : DvC w00 tk hs P R v) (hu : DvC w00 tk' hs' P' R' u) (hP : Bytes P) (hP' : Bytes P') (hn : R.length ≤ 1000000) (hn' : R'.length ≤ 1000000) (β : Bool) (hβ : β = true ↔ tk = tk' ∧ hs = hs' ∧ P = P' ∧ R = R') :
    Calls Try.prog 50 #[v, u] w00 fun e w' => e = .returned (.bool β) ∧ Below w00.heap.size w00 w' := by
  obtain ⟨A, c, A2, c2, rfl, h2, h3, h4, h5⟩ := hv
  obtain ⟨B, d, B2, d2, rfl, k2, k3, k4, k5⟩ := hu
  have HC := Aside0.mk (And.intro h2 (And.intro h3 (And.intro k2 k3)))
  have HN := Aside0.mk (And.intro hn hn')
  have HPB := Aside0.mk (And.intro hP hP')
  have HBE := Aside0.mk hβ
  have HF : Aside0 (∀ z, Below w00.heap.size w00 z → (Kd.int .u8).C z A P.length P ∧ k59.C z A2 R.length R ∧ (Kd.int .u8).C z B P'.length P' ∧ k59.C z B2 R'.length R') := ⟨fun z hb => ⟨Kd.C_below h4 hb, Kd.C_below h5 hb, Kd.C_below k4 hb, Kd.C_below k5 hb⟩⟩
  have H0 := Aside0.mk (((Hp.start w00).alloc (.cells #[.int .u32 tk, .int .u32 hs, .slice A P.length c, .slice A2 R.length c2] 26)).allocAt (.cells #[.int .u32 tk', .int .u32 hs', .slice B P'.length d, .slice B2 R'.length d2] 26) (w00.heap.size + 1) (by simp))
  clear h2 h3 h4 h5 k2 k3 k4 k5 hn hn' hP hP' hβ
  generalize P.length = n at *
  generalize R.length = m at *
  generalize P'.length = n' at *
  generalize R'.length = m' at *
  go_enter Try.func50, Try.ntmps50
  go_upto_region 1 with fail
  generalize (w00.alloc (.cells #[.int .u32 tk, .int .u32 hs, .slice A n c, .slice A2 m c2] 26)).alloc (.cells #[.int .u32 tk', .int .u32 hs', .slice B n' d, .slice B2 m' d2] 26) = W at *
  obtain ⟨gd, hgd⟩ : ∃ gd, w00.heap.size = gd := ⟨_, rfl⟩
  rw [hgd] at H0 HF
  rw [hgd]
  have HGD := Aside0.mk hgd
  clear hgd
  have a0 := blk_cell (H0.out.get (i := 1) rfl) 0
  have a1 := blk_cell (H0.out.get (i := 1) rfl) 1
  have a2 := blk_cell (H0.out.get (i := 1) rfl) 2
  have b0 := blk_cell (H0.out.get (i := 0) rfl) 0
  have b1 := blk_cell (H0.out.get (i := 0) rfl) 1
  have b2 := blk_cell (H0.out.get (i := 0) rfl) 2
  by_cases e1 : tk = tk'
  · by_cases e2 : hs = hs'
    · subst e1 e2
      go_wp2_with fail
      obtain ⟨f1, f2, f3, f4⟩ := HF.out W H0.out.bel
      obtain ⟨γ, hγ⟩ : ∃ γ : Bool, γ = true ↔ P = P' := ⟨decide (P = P'), decide_eq_true_iff⟩
      have KS := Aside0.mk (bequalG_any A B n n' c d P P' W f1 HC.out.1 f3 HC.out.2.2.1 HPB.out.1 HPB.out.2 γ hγ)
      refine KS.out.mono ?_
      rintro e w1 ⟨rfl, hb1⟩
      have H1 := Aside0.mk (H0.out.call hb1)
      clear a0 a1 a2 b0 b1 b2 f1 f2 f3 f4 KS hb1 H0
      have a3 := blk_cell (H1.out.get (i := 1) rfl) 3
      have b3 := blk_cell (H1.out.get (i := 0) rfl) 3
      have HG := Aside0.mk hγ
      clear hγ
      cases γ with
      | false =>
        have HT : Aside0 (β = false) := ⟨by
          rw [Bool.eq_false_iff]
          intro e
          exact absurd (HG.out.2 (HBE.out.1 e).2.2.1) (by simp)⟩
        go_wp2_with fail
        go_ret
        rw [HGD.out, HT.out]
        exact ⟨rfl, H1.out.bel⟩
      | true =>
        have HPP := Aside0.mk (HG.out.1 rfl)
        go_wp2_with fail
        obtain ⟨f1, f2, f3, f4⟩ := HF.out w1 H1.out.bel
        have hβ2 : β = true ↔ R = R' := ⟨fun h => (HBE.out.1 h).2.2.2, fun h => HBE.out.2 (by refine ⟨?_, ?_, HPP.out, h⟩ <;> first | rfl | trivial)⟩
        have KC := Aside0.mk (cequalG_any A2 B2 m m' c2 d2 R R' w1 f2 f4 HN.out.1 HN.out.2 β hβ2)
        refine KC.out.mono ?_
        rintro e w2 ⟨rfl, hd⟩
        have H2 := Aside0.mk (H1.out.call hd)
        clear f1 f2 f3 f4 KC hd a3 b3 H1
        go_wp2_with fail
        go_ret
        rw [HGD.out]
        exact ⟨rfl, H2.out.bel⟩
    · have HT : Aside0 (β = false) := ⟨by
        rw [Bool.eq_false_iff]
        intro e
        exact e2 (HBE.out.1 e).2.1⟩
      subst e1
      go_wp2_with fail
      go_ret
      rw [HGD.out, HT.out]
      exact ⟨rfl, H0.out.bel⟩
  · have HT : Aside0 (β = false) := ⟨by
      rw [Bool.eq_false_iff]
      intro e
      exact e1 (HBE.out.1 e).1⟩
    go_wp2_with fail
    go_ret
    rw [HGD.out, HT.out]
    exact ⟨rfl, H0.out.bel⟩
end Go.Proofs.Yticpjidcgaaldaa

namespace Go.Proofs.Yticpjidcgaaldaa
open Go.RowKit Go.Proofs.YticpjidcgaaldaaW.PrintWords Go.Proofs.YticpjidcgaaldaaW.PrintLast Go.Proofs.YticpjidcgaaldaaW.PrintMore
set_option linter.unusedVariables false
set_option linter.unusedSimpArgs false

def MsC (w : World) (k t m tk hs : Int) (P : List Int) (C : List S59) (v : Value) : Prop :=
  ∃ A c A2 c2, v = .agg #[.int .u8 k, .int .u32 t, .int .u32 m, .int .u32 tk, .int .u32 hs, .slice A P.length c, .slice A2 C.length c2] ∧ P.length ≤ c ∧ C.length ≤ c2 ∧ (Kd.int .u8).C w A P.length P ∧ k59.C w A2 C.length C
theorem MsC.below {w w' : World} {k t m tk hs : Int} {P : List Int} {C : List S59} {v : Value} (h : MsC w k t m tk hs P C v) (hb : Below w.heap.size w w') : MsC w' k t m tk hs P C v := by
  obtain ⟨A, c, A2, c2, h1, h2, h3, h4, h5⟩ := h
  exact ⟨A, c, A2, c2, h1, h2, h3, Kd.C_below h4 hb, Kd.C_below h5 hb⟩
def isZ (tk hs : Int) (P : List Int) (C : List S59) : Bool := decide (tk = 0 ∧ hs = 0 ∧ P.length = 0 ∧ C.length = 0)
theorem isZ_iff (tk hs : Int) (P : List Int) (C : List S59) : isZ tk hs P C = true ↔ tk = 0 ∧ hs = 0 ∧ P = [] ∧ C = [] := by
  unfold isZ
  rw [decide_eq_true_iff, List.length_eq_zero_iff, List.length_eq_zero_iff]
def rightM (k t m tk hs : Int) (P : List Int) (C : List S59) : Bool :=
  if k = 1 ∨ k = 3 ∨ k = 4 then isZ tk hs P C && (decide (t = 0) && decide (m = 0)) else if k = 2 then isZ tk hs P C else if k = 5 ∨ k = 6 then decide (m = 0) && (decide (tk = t) && rightB P C.length) else false
theorem msg_info (a b c d e f g : Value) : (Try.prog.info? 28).map (·.size) = some (#[a, b, c, d, e, f, g] : Array Value).size := by kernel_rfl
def OkM (k t m tk hs : Int) (P : List Int) (C : List S59) : Prop := (0 ≤ k ∧ k < 256) ∧ (0 ≤ t ∧ t < 4294967296) ∧ (0 ≤ m ∧ m < 4294967296) ∧ (0 ≤ tk ∧ tk < 4294967296) ∧ (0 ≤ hs ∧ hs < 4294967296) ∧ Bytes P ∧ (∀ y ∈ C, I32p y.f0 ∧ U32 y.f1) ∧ P.length ≤ 1000 ∧ C.length ≤ 1000

set_option maxRecDepth 100000 in
set_option maxHeartbeats 16000000 in
theorem mright_any (k t m tk hs : Int) (P : List Int) (C : List S59) (v : Value) (w00 : World) (hv : MsC w00 k t m tk hs P C v) (hk : OkM k t m tk hs P C) :
    Calls Try.prog 37 #[v] w00 fun e w' => e = .returned (.bool (rightM k t m tk hs P C)) ∧ Below w00.heap.size w00 w' := by
  obtain ⟨A, c, A2, c2, rfl, h2, h3, h4, h5⟩ := hv
  have HOK := Aside0.mk hk
  have HD : Aside0 (∀ z, Below w00.heap.size w00 z → DvC z tk hs P C (.agg #[.int .u32 tk, .int .u32 hs, .slice A P.length c, .slice A2 C.length c2])) := ⟨fun z hz => ⟨A, c, A2, c2, rfl, h2, h3, Kd.C_below h4 hz, Kd.C_below h5 hz⟩⟩
  have HZ : Aside0 (∀ z : World, DvC z 0 0 [] [] (.agg #[.int .u32 0, .int .u32 0, .slice none 0 0, .slice none 0 0])) := ⟨fun z => ⟨none, 0, none, 0, rfl, Nat.le_refl _, Nat.le_refl _, Kd.C_nil _ _, Kd.C_nil _ _⟩⟩
  obtain ⟨n, hn⟩ : ∃ n, P.length = n := ⟨_, rfl⟩
  obtain ⟨nc, hnc⟩ : ∃ nc, C.length = nc := ⟨_, rfl⟩
  rw [hn, hnc] at HD
  rw [hn, hnc]
  obtain ⟨B, hB⟩ : ∃ B, w00.heap.size = B := ⟨_, rfl⟩
  rw [hB] at HD
  have HB := Aside0.mk hB
  have H0 := Aside0.mk ((Hp.start w00).allocAt (.cells #[.int .u8 k, .int .u32 t, .int .u32 m, .int .u32 tk, .int .u32 hs, .slice A n c, .slice A2 nc c2] 28) B hB)
  rw [hB] at H0
  obtain ⟨ζ, hζ⟩ : ∃ ζ, isZ tk hs P C = ζ := ⟨_, rfl⟩
  obtain ⟨ρ, hρ⟩ : ∃ ρ, rightM k t m tk hs P C = ρ := ⟨_, rfl⟩
  have HR := Aside0.mk hρ
  rw [hρ]
  have KD := Aside0.mk (fun (z : World) (h : Below B w00 z) => dsameG_any tk hs 0 0 P [] C [] _ _ z (HD.out z h) (HZ.out z) HOK.out.2.2.2.2.2.1 Bytes.nil (by have := HOK.out.2.2.2.2.2.2.2.2; omega) (by simp) ζ (by rw [← hζ]; exact isZ_iff tk hs P C))
  have HZE := Aside0.mk hζ
  obtain ⟨tkn, htk⟩ : ∃ x : Nat, tk = (x : Int) := ⟨tk.toNat, by have := HOK.out.2.2.2.1; omega⟩
  obtain ⟨hsn, hhs⟩ : ∃ x : Nat, hs = (x : Int) := ⟨hs.toNat, by have := HOK.out.2.2.2.2.1; omega⟩
  have HTN := Aside0.mk (And.intro htk hhs)
  have KB := Aside0.mk (fun (z : World) (h : Below B w00 z) => pbytes7_any tkn hsn P C _ z (by rw [← htk, ← hhs]; exact HD.out z h) HOK.out.2.2.2.2.2.1 (by have := HOK.out.2.2.2.2.2.2.2.1; omega) (by have := HOK.out.2.2.2.1; omega) (by have := HOK.out.2.2.2.2.1; omega) (fun y hy => (HOK.out.2.2.2.2.2.2.1 y hy).2))
  have HPOS := Aside0.mk (pbD_pos tkn hsn P C)
  obtain ⟨pb, hpb⟩ : ∃ pb, pbD tkn hsn P C = pb := ⟨_, rfl⟩
  rw [hpb] at KB HPOS
  clear hk h2 h3 h4 h5 hn hnc hζ hρ htk hhs hpb
  have c0 := blk_cell (H0.out.get (i := 0) rfl) 0
  have c1 := blk_cell (H0.out.get (i := 0) rfl) 1
  have c2' := blk_cell (H0.out.get (i := 0) rfl) 2
  have c3 := blk_cell (H0.out.get (i := 0) rfl) 3
  have c4 := blk_cell (H0.out.get (i := 0) rfl) 4
  have c5 := blk_cell (H0.out.get (i := 0) rfl) 5
  have c6 := blk_cell (H0.out.get (i := 0) rfl) 6
  go_enter Try.func37, Try.ntmps37
  go_wp2_with fail
  clear c0 c1 c2' c3 c4 c5 c6
  refine (KD.out _ H0.out.bel).mono ?_
  rintro e w1 ⟨rfl, hb1⟩
  have H1 := Aside0.mk (H0.out.call hb1)
  clear hb1 H0 KD
  have c0 := blk_cell (H1.out.get (i := 0) rfl) 0
  have c1 := blk_cell (H1.out.get (i := 0) rfl) 1
  have c2' := blk_cell (H1.out.get (i := 0) rfl) 2
  have c3 := blk_cell (H1.out.get (i := 0) rfl) 3
  have c4 := blk_cell (H1.out.get (i := 0) rfl) 4
  have c5 := blk_cell (H1.out.get (i := 0) rfl) 5
  have c6 := blk_cell (H1.out.get (i := 0) rfl) 6
  by_cases h1 : k = 1
  · subst h1
    cases ζ with
    | false =>
      have HRV : Aside0 (ρ = false) := ⟨by rw [← HR.out]; unfold rightM; rw [if_pos (by omega), HZE.out]; rfl⟩
      go_wp2_with fail
      go_ret
      rw [HB.out, HRV.out]
      exact ⟨rfl, H1.out.bel⟩
    | true =>
      by_cases ht : t = 0
      · subst ht
        by_cases hm : m = 0
        · subst hm
          have HRV : Aside0 (ρ = true) := ⟨by rw [← HR.out]; unfold rightM; rw [if_pos (by omega), HZE.out]; simp⟩
          go_wp2_with fail
          go_ret
          rw [HB.out, HRV.out]
          exact ⟨rfl, H1.out.bel⟩
        · have hm2 : (m == 0) = false := by simpa using hm
          have HRV : Aside0 (ρ = false) := ⟨by rw [← HR.out]; unfold rightM; rw [if_pos (by omega), HZE.out, decide_eq_false hm]; simp⟩
          go_wp2_with fail
          go_ret
          rw [HB.out, HRV.out]
          exact ⟨rfl, H1.out.bel⟩
      · have HRV : Aside0 (ρ = false) := ⟨by rw [← HR.out]; unfold rightM; rw [if_pos (by omega), HZE.out, decide_eq_false ht]; simp⟩
        go_wp2_with fail
        go_ret
        rw [HB.out, HRV.out]
        exact ⟨rfl, H1.out.bel⟩
  · skip
    by_cases h3 : k = 3
    · subst h3
      cases ζ with
      | false =>
        have HRV : Aside0 (ρ = false) := ⟨by rw [← HR.out]; unfold rightM; rw [if_pos (by omega), HZE.out]; rfl⟩
        go_wp2_with fail
        go_ret
        rw [HB.out, HRV.out]
        exact ⟨rfl, H1.out.bel⟩
      | true =>
        by_cases ht : t = 0
        · subst ht
          by_cases hm : m = 0
          · subst hm
            have HRV : Aside0 (ρ = true) := ⟨by rw [← HR.out]; unfold rightM; rw [if_pos (by omega), HZE.out]; simp⟩
            go_wp2_with fail
            go_ret
            rw [HB.out, HRV.out]
            exact ⟨rfl, H1.out.bel⟩
          · have hm2 : (m == 0) = false := by simpa using hm
            have HRV : Aside0 (ρ = false) := ⟨by rw [← HR.out]; unfold rightM; rw [if_pos (by omega), HZE.out, decide_eq_false hm]; simp⟩
            go_wp2_with fail
            go_ret
            rw [HB.out, HRV.out]
            exact ⟨rfl, H1.out.bel⟩
        · have HRV : Aside0 (ρ = false) := ⟨by rw [← HR.out]; unfold rightM; rw [if_pos (by omega), HZE.out, decide_eq_false ht]; simp⟩
          go_wp2_with fail
          go_ret
          rw [HB.out, HRV.out]
          exact ⟨rfl, H1.out.bel⟩
    · skip
      by_cases h4 : k = 4
      · subst h4
        cases ζ with
        | false =>
          have HRV : Aside0 (ρ = false) := ⟨by rw [← HR.out]; unfold rightM; rw [if_pos (by omega), HZE.out]; rfl⟩
          go_wp2_with fail
          go_ret
          rw [HB.out, HRV.out]
          exact ⟨rfl, H1.out.bel⟩
        | true =>
          by_cases ht : t = 0
          · subst ht
            by_cases hm : m = 0
            · subst hm
              have HRV : Aside0 (ρ = true) := ⟨by rw [← HR.out]; unfold rightM; rw [if_pos (by omega), HZE.out]; simp⟩
              go_wp2_with fail
              go_ret
              rw [HB.out, HRV.out]
              exact ⟨rfl, H1.out.bel⟩
            · have hm2 : (m == 0) = false := by simpa using hm
              have HRV : Aside0 (ρ = false) := ⟨by rw [← HR.out]; unfold rightM; rw [if_pos (by omega), HZE.out, decide_eq_false hm]; simp⟩
              go_wp2_with fail
              go_ret
              rw [HB.out, HRV.out]
              exact ⟨rfl, H1.out.bel⟩
          · have HRV : Aside0 (ρ = false) := ⟨by rw [← HR.out]; unfold rightM; rw [if_pos (by omega), HZE.out, decide_eq_false ht]; simp⟩
            go_wp2_with fail
            go_ret
            rw [HB.out, HRV.out]
            exact ⟨rfl, H1.out.bel⟩
      · skip
        by_cases h2 : k = 2
        · subst h2
          have HRV : Aside0 (ρ = ζ) := ⟨by rw [← HR.out]; unfold rightM; rw [if_neg (by omega), if_pos rfl]; exact HZE.out⟩
          go_wp2_with fail
          go_ret
          rw [HB.out, HRV.out]
          exact ⟨rfl, H1.out.bel⟩
        · skip
          by_cases h5 : k = 5
          · subst h5
            by_cases hm : m = 0
            · subst hm
              by_cases ht : tk = t
              · subst ht
                clear HZE
                go_wp2_with fail
                refine (KB.out _ H1.out.bel).mono ?_
                rintro e w2 ⟨v2, rfl, hv2, hb2⟩
                obtain ⟨Ab, cb, rfl, hcb, _⟩ := Kd.R_reads hv2
                have H2 := Aside0.mk (H1.out.call hb2)
                clear hv2 hb2 H1 c0 c1 c2' c3 c4 c5 c6
                obtain ⟨pl, hpl⟩ : ∃ pl, pb.length = pl := ⟨_, rfl⟩
                rw [hpl] at HPOS
                rw [hpl]
                clear hpl
                have HRV : Aside0 (ρ = rightB P C.length) := ⟨by rw [← HR.out]; unfold rightM; rw [if_neg (by omega), if_neg (by omega), if_pos (by omega)]; simp⟩
                cases hr : rightB P C.length with
                | true =>
                  rw [hr] at HPOS HRV
                  have hp0 : (0 : Int) < pl := by have := of_decide_eq_true HPOS.out; omega
                  have hp1 : decide (0 < pl) = true := HPOS.out
                  clear hr
                  go_wp2_with fail
                  go_ret
                  rw [HB.out, HRV.out]
                  exact ⟨rfl, H2.out.bel⟩
                | false =>
                  rw [hr] at HPOS HRV
                  have hp0 : ¬ (0 : Int) < pl := by have := of_decide_eq_false HPOS.out; omega
                  have hp1 : decide (0 < pl) = false := HPOS.out
                  clear hr
                  go_wp2_with fail
                  go_ret
                  rw [HB.out, HRV.out]
                  exact ⟨rfl, H2.out.bel⟩
              · have HRV : Aside0 (ρ = false) := ⟨by rw [← HR.out]; unfold rightM; rw [if_neg (by omega), if_neg (by omega), if_pos (by omega), decide_eq_false ht]; simp⟩
                go_wp2_with fail
                go_ret
                rw [HB.out, HRV.out]
                exact ⟨rfl, H1.out.bel⟩
            · have HRV : Aside0 (ρ = false) := ⟨by rw [← HR.out]; unfold rightM; rw [if_neg (by omega), if_neg (by omega), if_pos (by omega), decide_eq_false hm]; simp⟩
              go_wp2_with fail
              go_ret
              rw [HB.out, HRV.out]
              exact ⟨rfl, H1.out.bel⟩
          · skip
            by_cases h6 : k = 6
            · subst h6
              by_cases hm : m = 0
              · subst hm
                by_cases ht : tk = t
                · subst ht
                  clear HZE
                  go_wp2_with fail
                  refine (KB.out _ H1.out.bel).mono ?_
                  rintro e w2 ⟨v2, rfl, hv2, hb2⟩
                  obtain ⟨Ab, cb, rfl, hcb, _⟩ := Kd.R_reads hv2
                  have H2 := Aside0.mk (H1.out.call hb2)
                  clear hv2 hb2 H1 c0 c1 c2' c3 c4 c5 c6
                  obtain ⟨pl, hpl⟩ : ∃ pl, pb.length = pl := ⟨_, rfl⟩
                  rw [hpl] at HPOS
                  rw [hpl]
                  clear hpl
                  have HRV : Aside0 (ρ = rightB P C.length) := ⟨by rw [← HR.out]; unfold rightM; rw [if_neg (by omega), if_neg (by omega), if_pos (by omega)]; simp⟩
                  cases hr : rightB P C.length with
                  | true =>
                    rw [hr] at HPOS HRV
                    have hp0 : (0 : Int) < pl := by have := of_decide_eq_true HPOS.out; omega
                    have hp1 : decide (0 < pl) = true := HPOS.out
                    clear hr
                    go_wp2_with fail
                    go_ret
                    rw [HB.out, HRV.out]
                    exact ⟨rfl, H2.out.bel⟩
                  | false =>
                    rw [hr] at HPOS HRV
                    have hp0 : ¬ (0 : Int) < pl := by have := of_decide_eq_false HPOS.out; omega
                    have hp1 : decide (0 < pl) = false := HPOS.out
                    clear hr
                    go_wp2_with fail
                    go_ret
                    rw [HB.out, HRV.out]
                    exact ⟨rfl, H2.out.bel⟩
                · have HRV : Aside0 (ρ = false) := ⟨by rw [← HR.out]; unfold rightM; rw [if_neg (by omega), if_neg (by omega), if_pos (by omega), decide_eq_false ht]; simp⟩
                  go_wp2_with fail
                  go_ret
                  rw [HB.out, HRV.out]
                  exact ⟨rfl, H1.out.bel⟩
              · have HRV : Aside0 (ρ = false) := ⟨by rw [← HR.out]; unfold rightM; rw [if_neg (by omega), if_neg (by omega), if_pos (by omega), decide_eq_false hm]; simp⟩
                go_wp2_with fail
                go_ret
                rw [HB.out, HRV.out]
                exact ⟨rfl, H1.out.bel⟩
            · skip
              have HRV : Aside0 (ρ = false) := ⟨by rw [← HR.out]; unfold rightM; rw [if_neg (by omega), if_neg (by omega), if_neg (by omega)]⟩
              go_wp2_with fail
              go_ret
              rw [HB.out, HRV.out]
              exact ⟨rfl, H1.out.bel⟩
end Go.Proofs.Yticpjidcgaaldaa

namespace Go.Proofs.Yticpjidcgaaldaa
open Go.RowKit Go.Proofs.YticpjidcgaaldaaW.PrintWords Go.Proofs.YticpjidcgaaldaaW.PrintLast Go.Proofs.YticpjidcgaaldaaW.PrintMore
set_option linter.unusedVariables false
set_option linter.unusedSimpArgs false

def FrC (w : World) (ep sq nx bt : Int) (fi la al : Bool) (D : List Int) (v : Value) : Prop :=
  ∃ A c, v = .agg #[.int .u16 ep, .int .u16 sq, .int .u16 nx, .int .u32 bt, .bool fi, .bool la, .bool al, .slice A D.length c] ∧ D.length ≤ c ∧ (Kd.int .u8).C w A D.length D
theorem FrC.below {w w' : World} {ep sq nx bt : Int} {fi la al : Bool} {D : List Int} {v : Value} (h : FrC w ep sq nx bt fi la al D v) (hb : Below w.heap.size w w') : FrC w' ep sq nx bt fi la al D v := by
  obtain ⟨A, c, h1, h2, h3⟩ := h
  exact ⟨A, c, h1, h2, Kd.C_below h3 hb⟩
def bI (b : Bool) (n : Int) : Int := if b = true then n else 0
def flagsF (fi la al : Bool) : Int := bI fi 1 + bI la 2 + bI al 4
def rightF (sq : Int) (n : Nat) (fi la al : Bool) : Bool := if al = true then decide (sq = 0) && (decide (n = 0) && (!fi && !la)) else decide (n ≤ 64)
def fHead (ep sq nx bt : Nat) (fl : Int) (n : Nat) : List Int := [86] ++ lowN ep 2 ++ lowN sq 2 ++ lowN nx 2 ++ lowN bt 4 ++ [fl] ++ [(n : Int)]
def fBody (ep sq nx bt : Nat) (fi la al : Bool) (D : List Int) : List Int := fHead ep sq nx bt (flagsF fi la al) D.length ++ D
def sealL (l : List Int) : List Int := l ++ tailL (sumN tab l)
def fBytes (ep sq nx bt : Nat) (fi la al : Bool) (D : List Int) : List Int := if rightF sq D.length fi la al = true then sealL (fBody ep sq nx bt fi la al D) else []
theorem frame_info (a b c d e f g h : Value) : (Try.prog.info? 72).map (·.size) = some (#[a, b, c, d, e, f, g, h] : Array Value).size := by kernel_rfl
theorem flags_any (ep sq nx bt : Int) (fi la al : Bool) (D : List Int) (v : Value) (w : World) (hv : FrC w ep sq nx bt fi la al D v) :
    Calls Try.prog 60 #[v] w fun e w' => e = .returned (.int .u8 (flagsF fi la al)) ∧ Below w.heap.size w w' := by
  obtain ⟨A, c, rfl, h2, h3⟩ := hv
  exact frame_Frame_flags.calls 5 ep sq nx bt fi la al A c D (flagsF fi la al) w h3 h2 (by cases fi <;> cases la <;> cases al <;> rfl)
theorem fright_any (ep sq nx bt : Int) (fi la al : Bool) (D : List Int) (v : Value) (w : World) (hv : FrC w ep sq nx bt fi la al D v) :
    Calls Try.prog 58 #[v] w fun e w' => e = .returned (.bool (rightF sq D.length fi la al)) ∧ Below w.heap.size w w' := by
  obtain ⟨A, c, rfl, h2, h3⟩ := hv
  refine frame_Frame_right.calls ep sq nx bt fi la al A c D _ w h3 h2 ?_
  unfold frame_Frame_right.f rightF
  cases al with
  | false => simp only [Bool.false_eq_true, if_false]; congr 1; rw [Bool.eq_iff_iff, decide_eq_true_iff, decide_eq_true_iff]; omega
  | true =>
    simp only [if_true]
    by_cases h0 : sq = 0
    · rw [if_pos h0, decide_eq_true h0]
      by_cases h1 : D.length = 0
      · rw [if_pos (by omega), decide_eq_true h1]
        cases fi <;> cases la <;> rfl
      · rw [if_neg (by omega), decide_eq_false h1]; rfl
    · rw [if_neg h0, decide_eq_false h0]; rfl
theorem flagsF_lt (fi la al : Bool) : 0 ≤ flagsF fi la al ∧ flagsF fi la al < 8 := by cases fi <;> cases la <;> cases al <;> decide
theorem fHead_bytes (ep sq nx bt : Nat) (fi la al : Bool) (n : Nat) (hn : n < 256) : Bytes (fHead ep sq nx bt (flagsF fi la al) n) := by
  unfold fHead
  have := flagsF_lt fi la al
  refine (((((Bytes.append ?_ (lowN_bytes _ _)).append (lowN_bytes _ _)).append (lowN_bytes _ _)).append (lowN_bytes _ _)).append ?_).append ?_
  · intro b hb; rw [List.mem_singleton.1 hb]; omega
  · intro b hb; rw [List.mem_singleton.1 hb]; omega
  · intro b hb; rw [List.mem_singleton.1 hb]; omega
theorem fHead_len (ep sq nx bt : Nat) (fl : Int) (n : Nat) : (fHead ep sq nx bt fl n).length = 13 := by
  unfold fHead; simp only [List.length_append, lowN_length, List.length_cons, List.length_nil]
theorem rightF_le {sq : Int} {n : Nat} {fi la al : Bool} (h : rightF sq n fi la al = true) : n ≤ 64 := by
  unfold rightF at h
  cases al with
  | false => simpa using h
  | true => simp at h; omega

set_option maxRecDepth 100000 in
set_option maxHeartbeats 16000000 in
theorem fbytes_any (ep sq nx bt : Nat) (fi la al : Bool) (D : List Int) (v : Value) (w00 : World) (hv : FrC w00 ep sq nx bt fi la al D v) (he : ep < 65536 ∧ sq < 65536 ∧ nx < 65536 ∧ bt < 4294967296) (hD : Bytes D) :
    Calls Try.prog 27 #[v] w00 fun e w' => ∃ v', e = .returned v' ∧ (Kd.int .u8).R 5 w' w00.heap.size (fun _ => True) v' (fBytes ep sq nx bt fi la al D) ∧ Below w00.heap.size w00 w' := by
  have KR := Aside0.mk (fun (z : World) (h : Below w00.heap.size w00 z) => fright_any ep sq nx bt fi la al D v z (hv.below h))
  have KF := Aside0.mk (fun (z : World) (h : Below w00.heap.size w00 z) => flags_any ep sq nx bt fi la al D v z (hv.below h))
  obtain ⟨A, c, rfl, h2, h3⟩ := hv
  have HF : Aside0 (∀ z, Below w00.heap.size w00 z → (Kd.int .u8).C z A D.length D) := ⟨fun z hz => Kd.C_below h3 hz⟩
  have HE := Aside0.mk he
  have HDB := Aside0.mk hD
  obtain ⟨fb, hfb⟩ : ∃ fb, fBytes ep sq nx bt fi la al D = fb := ⟨_, rfl⟩
  rw [hfb]
  obtain ⟨ρ, hρ⟩ : ∃ ρ, rightF sq D.length fi la al = ρ := ⟨_, rfl⟩
  have HLE : Aside0 (ρ = true → D.length ≤ 64) := ⟨fun h => rightF_le (hρ.trans h)⟩
  obtain ⟨fl, hfl⟩ : ∃ fl, flagsF fi la al = fl := ⟨_, rfl⟩
  have HFB : Aside0 (fb = if ρ = true then sealL (fHead ep sq nx bt fl D.length ++ D) else []) := ⟨by rw [← hfb, ← hρ, ← hfl]; rfl⟩
  have HHB : Aside0 (D.length ≤ 64 → Bytes (fHead ep sq nx bt fl D.length ++ D)) := ⟨fun h => by rw [← hfl]; exact (fHead_bytes ep sq nx bt fi la al D.length (by omega)).append hD⟩
  rw [hρ] at KR
  rw [hfl] at KF
  obtain ⟨n, hn⟩ : ∃ n, D.length = n := ⟨_, rfl⟩
  rw [hn] at KR KF HF HLE HFB HHB
  rw [hn]
  obtain ⟨B, hB⟩ : ∃ B, w00.heap.size = B := ⟨_, rfl⟩
  rw [hB] at KR KF HF
  have HB := Aside0.mk hB
  have H0 := Aside0.mk ((Hp.start w00).allocAt (.cells #[.int .u16 ep, .int .u16 sq, .int .u16 nx, .int .u32 bt, .bool fi, .bool la, .bool al, .slice A n c] 72) B hB)
  rw [hB] at H0
  rw [hB]
  clear he hD h2 h3 hfb hρ hfl hn
  go_enter Try.func27, Try.ntmps27
  go_wp2_with (first | (refine wpList_load_row_g 72 (.tmp 1) rfl B rfl rfl 72 _ (0, 0) _ (H0.out.get (i := 0) rfl) Try.underlying72 rfl (frame_info _ _ _ _ _ _ _ _) ?_))
  refine (KR.out _ H0.out.bel).mono ?_
  rintro e V0 ⟨rfl, hb1⟩
  have H1 := Aside0.mk (H0.out.call hb1)
  clear hb1 H0 KR
  cases ρ with
  | false =>
    have HE2 : Aside0 (fb = []) := ⟨by rw [HFB.out]; rfl⟩
    clear HFB
    go_wp2_with fail
    go_ret
    rw [HE2.out]
    exact ⟨_, rfl, Kd.R_nil _ _ _ _ _, H1.out.bel⟩
  | true =>
    rw [if_pos rfl] at HFB
    have HN := Aside0.mk (HLE.out rfl)
    have HHB2 := Aside0.mk (HHB.out HN.out)
    obtain ⟨gp, hgp⟩ : ∃ gp, V0.heap.size = gp := ⟨_, rfl⟩
    have GD : Aside0 (B < gp) := ⟨by rw [← hgp]; exact H1.out.lt (i := 0) rfl⟩
    have hP0 : Pn (V0.alloc (.cells #[.slice none 0 0] 91)) gp gp [] (.slice none 0 0) := ⟨by rw [← hgp]; exact blk_new _ _, Kd.R_nil _ _ _ _ _⟩
    have HP0 := Aside0.mk hP0
    have HB0 : Aside0 (Below gp V0 (V0.alloc (.cells #[.slice none 0 0] 91))) := ⟨by rw [← hgp]; exact below_alloc (Below.refl _ _) _⟩
    have HG0 := Aside0.mk (H1.out.get (i := 0) rfl)
    have HW0 : Aside0 (∀ z, Below gp V0 z → Below B w00 z) := ⟨fun z hz => H1.out.bel.trans (hz.mono (Nat.le_of_lt GD.out))⟩
    have HLG : Aside0 (∀ z, Below gp V0 z → z.heap[B]? = some (.cells #[.int .u16 ep, .int .u16 sq, .int .u16 nx, .int .u32 bt, .bool fi, .bool la, .bool al, .slice A n c] 72 (0, 0))) := ⟨fun z hz => (hz.block B GD.out).trans HG0.out⟩
    clear hP0 H1 HG0 HHB HLE
    have HGP := Aside0.mk hgp
    clear hgp
    go_wp2_with fail
    rw [HGP.out]
    generalize V0.alloc (.cells #[.slice none 0 0] 91) = V1 at *
    refine regionS (W := V1)
      [fun _ v => v = .pointer (some ⟨gp, 0, none⟩),
       fun _ v => v = .pointer (some ⟨B, 0, none⟩),
       fun _ v => v = .int .u16 ep,
       fun _ v => v = .pointer (some ⟨gp, 0, none⟩),
       fun _ v => v = .pointer (some ⟨B, 1, none⟩),
       fun _ v => v = .int .u16 sq,
       fun _ v => v = .pointer (some ⟨gp, 0, none⟩),
       fun _ v => v = .pointer (some ⟨B, 2, none⟩),
       fun _ v => v = .pointer (some ⟨B, 2, none⟩),
       fun _ v => v = .int .u16 nx,
       fun _ v => v = .pointer (some ⟨gp, 0, none⟩),
       fun _ v => v = .pointer (some ⟨B, 2, none⟩),
       fun _ v => v = .pointer (some ⟨B, 3, none⟩),
       fun _ v => v = .int .u32 bt,
       fun _ v => v = .pointer (some ⟨gp, 0, none⟩),
       fun _ v => v = .agg #[.int .u16 ep, .int .u16 sq, .int .u16 nx, .int .u32 bt, .bool fi, .bool la, .bool al, .slice A n c],
       fun _ v => v = .int .u8 fl,
       fun _ v => v = .pointer (some ⟨gp, 0, none⟩),
       fun _ v => v = .pointer (some ⟨B, 7, none⟩),
       fun _ v => v = .slice A n c,
       fun _ v => v = .int .i64 n,
       fun _ v => v = .int .u8 n,
       fun _ v => v = .pointer (some ⟨gp, 0, none⟩)]
      [0, 3, 6, 10, 14, 17, 22]
      (fun t => match t with | 0 => fun (rs : List Value) (w : World) => ∃ v, Pn w gp gp [] v | 1 => fun (rs : List Value) (w : World) => ∃ v, Pn w gp gp [86] v | 2 => fun (rs : List Value) (w : World) => ∃ v, Pn w gp gp ([86] ++ lowN ep 2) v | 3 => fun (rs : List Value) (w : World) => ∃ v, Pn w gp gp ([86] ++ lowN ep 2 ++ lowN sq 2) v | 4 => fun (rs : List Value) (w : World) => ∃ v, Pn w gp gp ([86] ++ lowN ep 2 ++ lowN sq 2 ++ lowN nx 2) v | 5 => fun (rs : List Value) (w : World) => ∃ v, Pn w gp gp ([86] ++ lowN ep 2 ++ lowN sq 2 ++ lowN nx 2 ++ lowN bt 4) v | 6 => fun (rs : List Value) (w : World) => ∃ v, Pn w gp gp ([86] ++ lowN ep 2 ++ lowN sq 2 ++ lowN nx 2 ++ lowN bt 4 ++ [fl]) v | 7 => fun (rs : List Value) (w : World) => ∃ v, Pn w gp gp (fHead ep sq nx bt fl n) v | _ => fun _ _ => False)
      (fun _ _ _ => True) (fun w => Below gp V0 w ∧ gp ≤ w.heap.size)
      (fun j =>  none)
      [(0, some 7), (1, some 8), (2, some 9), (3, some 10), (4, some 11), (5, some 12), (6, some 13), (7, some 14), (8, some 15), (9, some 16), (10, some 17), (11, some 18), (12, some 19), (13, some 20), (14, some 21), (15, some 22), (16, some 23), (17, some 24), (18, some 25), (19, some 26), (20, some 27), (21, some 28), (22, some 29)]
      []
      (by kernel_rfl) (by kernel_rfl) (by kernel_rfl) (by kernel_rfl) (by kernel_rfl) ?z4_1c ?z4_1i ?z4_1b ?z4_1d ?z4_1g ⟨?z4_1t0, ?z4_1t1, ?z4_1t2, ?z4_1t3, ?z4_1t4, ?z4_1t5, ?z4_1t6, ?z4_1t7, ?z4_1t8, ?z4_1t9, ?z4_1t10, ?z4_1t11, ?z4_1t12, ?z4_1t13, ?z4_1t14, ?z4_1t15, ?z4_1t16, ?z4_1t17, ?z4_1t18, ?z4_1t19, ?z4_1t20, ?z4_1t21, ?z4_1t22, trivial⟩ ⟨?z4_1o0, ?z4_1o1, ?z4_1o2, ?z4_1o3, ?z4_1o4, ?z4_1o5, ?z4_1o6, ?z4_1o7, ?z4_1o8, ?z4_1o9, ?z4_1o10, ?z4_1o11, ?z4_1o12, ?z4_1o13, ?z4_1o14, ?z4_1o15, ?z4_1o16, ?z4_1o17, ?z4_1o18, ?z4_1o19, ?z4_1o20, ?z4_1o21, ?z4_1o22, trivial⟩ ?z4_1e
    case z4_1c => exact ⟨HB0.out.trans (below_drew (Below.refl _ _)), Nat.le_of_lt (blk_lt HP0.out.1)⟩
    case z4_1i => exact ⟨_, HP0.out⟩
    case z4_1b => intro w w' hb h; exact ⟨h.1.trans (hb.mono h.2), Nat.le_trans h.2 hb.size⟩
    case z4_1d =>
      intro t rs w w' hb h
      match t, h with
      | 0, h => (replace h : ∃ v, Pn w gp gp [] v := h); show ∃ v, Pn w' gp gp [] v; (obtain ⟨v, h⟩ := h; exact ⟨v, h.below hb⟩)
      | 1, h => (replace h : ∃ v, Pn w gp gp [86] v := h); show ∃ v, Pn w' gp gp [86] v; (obtain ⟨v, h⟩ := h; exact ⟨v, h.below hb⟩)
      | 2, h => (replace h : ∃ v, Pn w gp gp ([86] ++ lowN ep 2) v := h); show ∃ v, Pn w' gp gp ([86] ++ lowN ep 2) v; (obtain ⟨v, h⟩ := h; exact ⟨v, h.below hb⟩)
      | 3, h => (replace h : ∃ v, Pn w gp gp ([86] ++ lowN ep 2 ++ lowN sq 2) v := h); show ∃ v, Pn w' gp gp ([86] ++ lowN ep 2 ++ lowN sq 2) v; (obtain ⟨v, h⟩ := h; exact ⟨v, h.below hb⟩)
      | 4, h => (replace h : ∃ v, Pn w gp gp ([86] ++ lowN ep 2 ++ lowN sq 2 ++ lowN nx 2) v := h); show ∃ v, Pn w' gp gp ([86] ++ lowN ep 2 ++ lowN sq 2 ++ lowN nx 2) v; (obtain ⟨v, h⟩ := h; exact ⟨v, h.below hb⟩)
      | 5, h => (replace h : ∃ v, Pn w gp gp ([86] ++ lowN ep 2 ++ lowN sq 2 ++ lowN nx 2 ++ lowN bt 4) v := h); show ∃ v, Pn w' gp gp ([86] ++ lowN ep 2 ++ lowN sq 2 ++ lowN nx 2 ++ lowN bt 4) v; (obtain ⟨v, h⟩ := h; exact ⟨v, h.below hb⟩)
      | 6, h => (replace h : ∃ v, Pn w gp gp ([86] ++ lowN ep 2 ++ lowN sq 2 ++ lowN nx 2 ++ lowN bt 4 ++ [fl]) v := h); show ∃ v, Pn w' gp gp ([86] ++ lowN ep 2 ++ lowN sq 2 ++ lowN nx 2 ++ lowN bt 4 ++ [fl]) v; (obtain ⟨v, h⟩ := h; exact ⟨v, h.below hb⟩)
      | 7, h => (replace h : ∃ v, Pn w gp gp (fHead ep sq nx bt fl n) v := h); show ∃ v, Pn w' gp gp (fHead ep sq nx bt fl n) v; (obtain ⟨v, h⟩ := h; exact ⟨v, h.below hb⟩)
      | _ + 8, h => exact h.elim
    case z4_1g =>
      intro j hj; cases hj
    case z4_1t0 => exact StabS.const _ _ _ _
    case z4_1t1 => exact StabS.const _ _ _ _
    case z4_1t2 => exact StabS.const _ _ _ _
    case z4_1t3 => exact StabS.const _ _ _ _
    case z4_1t4 => exact StabS.const _ _ _ _
    case z4_1t5 => exact StabS.const _ _ _ _
    case z4_1t6 => exact StabS.const _ _ _ _
    case z4_1t7 => exact StabS.const _ _ _ _
    case z4_1t8 => exact StabS.const _ _ _ _
    case z4_1t9 => exact StabS.const _ _ _ _
    case z4_1t10 => exact StabS.const _ _ _ _
    case z4_1t11 => exact StabS.const _ _ _ _
    case z4_1t12 => exact StabS.const _ _ _ _
    case z4_1t13 => exact StabS.const _ _ _ _
    case z4_1t14 => exact StabS.const _ _ _ _
    case z4_1t15 => exact StabS.const _ _ _ _
    case z4_1t16 => exact StabS.const _ _ _ _
    case z4_1t17 => exact StabS.const _ _ _ _
    case z4_1t18 => exact StabS.const _ _ _ _
    case z4_1t19 => exact StabS.const _ _ _ _
    case z4_1t20 => exact StabS.const _ _ _ _
    case z4_1t21 => exact StabS.const _ _ _ _
    case z4_1t22 => exact StabS.const _ _ _ _
    case z4_1o0 =>
      intro vs w hC hS hV
      replace hS : ∃ v, Pn w gp gp [] v := hS
      rw [if_pos (by kernel_rfl)]
      generalize hρ : rho _ _ _ vs = ρ
      have e3 : ρ (.tmp 3) = .pointer (some ⟨gp, 0, none⟩) := by rw [← hρ]; kernel_rfl
      have ef38 : ρ (.func 38) = .func (.func 38) #[] #[] := by rw [← hρ]; rfl
      have econ : ∀ v : Value, ρ (.const v) = v := fun v => by rw [← hρ]; rfl
      clear hρ hV
      obtain ⟨v, hp⟩ := hS
      refine runs_call (f := 38) (args := #[.pointer (some ⟨gp, 0, none⟩), .int .u8 86]) (w' := w) ?_ ?_
      · go_simp
      · refine (pbyte_any gp gp [] v 86  w hp (Nat.le_refl _) (by first | (simp only [List.length_append, lowN_length, List.length_cons, List.length_nil]; omega) | simp)).mono ?_
        rintro e w5 ⟨v', rfl, h⟩
        exact ⟨_, rfl, ⟨hC.1.trans h.2.2.2, Nat.le_trans hC.2 h.2.1.1⟩, trivial, rfl, ⟨v', h.1⟩⟩
    case z4_1o1 =>
      intro vs w t hC ht1 ht2 hS hV
      rw [if_pos (by kernel_rfl)]
      generalize hρ : rho _ _ _ vs = ρ
      have e1 : ρ (.tmp 1) = .pointer (some ⟨B, 0, none⟩) := by rw [← hρ]; kernel_rfl
      clear hρ hV
      refine runs_val (v := .pointer (some ⟨B, 0, none⟩)) (w' := w) ?_ ⟨Below.refl _ _, rfl⟩
      clear ht1 ht2 hS hC
      go_simp <;> (first | exact IntWalk.u64_in _ (by omega) | exact IntWalk.u32_in _ (by omega) | exact IntWalk.u16_in _ (by omega) | exact IntWalk.u8_in _ (by omega) | exact IntWalk.i64_in _ (by omega) | skip)
    case z4_1o2 =>
      intro vs w t hC ht1 ht2 hS hV
      rw [if_pos (by kernel_rfl)]
      generalize hρ : rho _ _ _ vs = ρ
      have d8 : (vs 1) = .pointer (some ⟨B, 0, none⟩) := hV 1 (by kernel_rfl)
      have e8 : ρ (.tmp 8) = vs 1 := by rw [← hρ]; kernel_rfl
      rw [d8] at e8; clear d8
      clear hρ hV
      have c0 := blk_cell (HLG.out w hC.1) 0
      refine runs_val (v := .int .u16 ep) (w' := w) ?_ ⟨Below.refl _ _, rfl⟩
      clear ht1 ht2 hS hC
      go_simp
    case z4_1o3 =>
      intro vs w hC hS hV
      replace hS : ∃ v, Pn w gp gp [86] v := hS
      rw [if_pos (by kernel_rfl)]
      generalize hρ : rho _ _ _ vs = ρ
      have d7 : (vs 0) = .pointer (some ⟨gp, 0, none⟩) := hV 0 (by kernel_rfl)
      have e7 : ρ (.tmp 7) = vs 0 := by rw [← hρ]; kernel_rfl
      rw [d7] at e7; clear d7
      have d9 : (vs 2) = .int .u16 ep := hV 2 (by kernel_rfl)
      have e9 : ρ (.tmp 9) = vs 2 := by rw [← hρ]; kernel_rfl
      rw [d9] at e9; clear d9
      have ef59 : ρ (.func 59) = .func (.func 59) #[] #[] := by rw [← hρ]; rfl
      clear hρ hV
      obtain ⟨v, hp⟩ := hS
      refine runs_call (f := 59) (args := #[.pointer (some ⟨gp, 0, none⟩), .int .u16 ep]) (w' := w) ?_ ?_
      · go_simp
      · refine (phalf_any gp gp [86] v ep HE.out.1 w hp (Nat.le_refl _) (by first | (simp only [List.length_append, lowN_length, List.length_cons, List.length_nil]; omega) | simp)).mono ?_
        rintro e w5 ⟨v', rfl, h⟩
        exact ⟨_, rfl, ⟨hC.1.trans h.2.2.2, Nat.le_trans hC.2 h.2.1.1⟩, trivial, rfl, ⟨v', h.1⟩⟩
    case z4_1o4 =>
      intro vs w t hC ht1 ht2 hS hV
      rw [if_pos (by kernel_rfl)]
      generalize hρ : rho _ _ _ vs = ρ
      have e1 : ρ (.tmp 1) = .pointer (some ⟨B, 0, none⟩) := by rw [← hρ]; kernel_rfl
      clear hρ hV
      refine runs_val (v := .pointer (some ⟨B, 1, none⟩)) (w' := w) ?_ ⟨Below.refl _ _, rfl⟩
      clear ht1 ht2 hS hC
      go_simp <;> (first | exact IntWalk.u64_in _ (by omega) | exact IntWalk.u32_in _ (by omega) | exact IntWalk.u16_in _ (by omega) | exact IntWalk.u8_in _ (by omega) | exact IntWalk.i64_in _ (by omega) | skip)
    case z4_1o5 =>
      intro vs w t hC ht1 ht2 hS hV
      rw [if_pos (by kernel_rfl)]
      generalize hρ : rho _ _ _ vs = ρ
      have d11 : (vs 4) = .pointer (some ⟨B, 1, none⟩) := hV 4 (by kernel_rfl)
      have e11 : ρ (.tmp 11) = vs 4 := by rw [← hρ]; kernel_rfl
      rw [d11] at e11; clear d11
      clear hρ hV
      have c0 := blk_cell (HLG.out w hC.1) 1
      refine runs_val (v := .int .u16 sq) (w' := w) ?_ ⟨Below.refl _ _, rfl⟩
      clear ht1 ht2 hS hC
      go_simp
    case z4_1o6 =>
      intro vs w hC hS hV
      replace hS : ∃ v, Pn w gp gp ([86] ++ lowN ep 2) v := hS
      rw [if_pos (by kernel_rfl)]
      generalize hρ : rho _ _ _ vs = ρ
      have d10 : (vs 3) = .pointer (some ⟨gp, 0, none⟩) := hV 3 (by kernel_rfl)
      have e10 : ρ (.tmp 10) = vs 3 := by rw [← hρ]; kernel_rfl
      rw [d10] at e10; clear d10
      have d12 : (vs 5) = .int .u16 sq := hV 5 (by kernel_rfl)
      have e12 : ρ (.tmp 12) = vs 5 := by rw [← hρ]; kernel_rfl
      rw [d12] at e12; clear d12
      have ef59 : ρ (.func 59) = .func (.func 59) #[] #[] := by rw [← hρ]; rfl
      clear hρ hV
      obtain ⟨v, hp⟩ := hS
      refine runs_call (f := 59) (args := #[.pointer (some ⟨gp, 0, none⟩), .int .u16 sq]) (w' := w) ?_ ?_
      · go_simp
      · refine (phalf_any gp gp ([86] ++ lowN ep 2) v sq HE.out.2.1 w hp (Nat.le_refl _) (by first | (simp only [List.length_append, lowN_length, List.length_cons, List.length_nil]; omega) | simp)).mono ?_
        rintro e w5 ⟨v', rfl, h⟩
        exact ⟨_, rfl, ⟨hC.1.trans h.2.2.2, Nat.le_trans hC.2 h.2.1.1⟩, trivial, rfl, ⟨v', h.1⟩⟩
    case z4_1o7 =>
      intro vs w t hC ht1 ht2 hS hV
      rw [if_pos (by kernel_rfl)]
      generalize hρ : rho _ _ _ vs = ρ
      have e1 : ρ (.tmp 1) = .pointer (some ⟨B, 0, none⟩) := by rw [← hρ]; kernel_rfl
      clear hρ hV
      refine runs_val (v := .pointer (some ⟨B, 2, none⟩)) (w' := w) ?_ ⟨Below.refl _ _, rfl⟩
      clear ht1 ht2 hS hC
      go_simp <;> (first | exact IntWalk.u64_in _ (by omega) | exact IntWalk.u32_in _ (by omega) | exact IntWalk.u16_in _ (by omega) | exact IntWalk.u8_in _ (by omega) | exact IntWalk.i64_in _ (by omega) | skip)
    case z4_1o8 =>
      intro vs w t hC ht1 ht2 hS hV
      rw [if_pos (by kernel_rfl)]
      generalize hρ : rho _ _ _ vs = ρ
      have d14 : (vs 7) = .pointer (some ⟨B, 2, none⟩) := hV 7 (by kernel_rfl)
      have e14 : ρ (.tmp 14) = vs 7 := by rw [← hρ]; kernel_rfl
      rw [d14] at e14; clear d14
      clear hρ hV
      refine runs_val (v := .pointer (some ⟨B, 2, none⟩)) (w' := w) ?_ ⟨Below.refl _ _, rfl⟩
      clear ht1 ht2 hS hC
      go_simp <;> (first | exact IntWalk.u64_in _ (by omega) | exact IntWalk.u32_in _ (by omega) | exact IntWalk.u16_in _ (by omega) | exact IntWalk.u8_in _ (by omega) | exact IntWalk.i64_in _ (by omega) | skip)
    case z4_1o9 =>
      intro vs w t hC ht1 ht2 hS hV
      rw [if_pos (by kernel_rfl)]
      generalize hρ : rho _ _ _ vs = ρ
      have d15 : (vs 8) = .pointer (some ⟨B, 2, none⟩) := hV 8 (by kernel_rfl)
      have e15 : ρ (.tmp 15) = vs 8 := by rw [← hρ]; kernel_rfl
      rw [d15] at e15; clear d15
      clear hρ hV
      have c0 := blk_cell (HLG.out w hC.1) 2
      refine runs_val (v := .int .u16 nx) (w' := w) ?_ ⟨Below.refl _ _, rfl⟩
      clear ht1 ht2 hS hC
      go_simp
    case z4_1o10 =>
      intro vs w hC hS hV
      replace hS : ∃ v, Pn w gp gp ([86] ++ lowN ep 2 ++ lowN sq 2) v := hS
      rw [if_pos (by kernel_rfl)]
      generalize hρ : rho _ _ _ vs = ρ
      have d13 : (vs 6) = .pointer (some ⟨gp, 0, none⟩) := hV 6 (by kernel_rfl)
      have e13 : ρ (.tmp 13) = vs 6 := by rw [← hρ]; kernel_rfl
      rw [d13] at e13; clear d13
      have d16 : (vs 9) = .int .u16 nx := hV 9 (by kernel_rfl)
      have e16 : ρ (.tmp 16) = vs 9 := by rw [← hρ]; kernel_rfl
      rw [d16] at e16; clear d16
      have ef59 : ρ (.func 59) = .func (.func 59) #[] #[] := by rw [← hρ]; rfl
      clear hρ hV
      obtain ⟨v, hp⟩ := hS
      refine runs_call (f := 59) (args := #[.pointer (some ⟨gp, 0, none⟩), .int .u16 nx]) (w' := w) ?_ ?_
      · go_simp
      · refine (phalf_any gp gp ([86] ++ lowN ep 2 ++ lowN sq 2) v nx HE.out.2.2.1 w hp (Nat.le_refl _) (by first | (simp only [List.length_append, lowN_length, List.length_cons, List.length_nil]; omega) | simp)).mono ?_
        rintro e w5 ⟨v', rfl, h⟩
        exact ⟨_, rfl, ⟨hC.1.trans h.2.2.2, Nat.le_trans hC.2 h.2.1.1⟩, trivial, rfl, ⟨v', h.1⟩⟩
    case z4_1o11 =>
      intro vs w t hC ht1 ht2 hS hV
      rw [if_pos (by kernel_rfl)]
      generalize hρ : rho _ _ _ vs = ρ
      have e1 : ρ (.tmp 1) = .pointer (some ⟨B, 0, none⟩) := by rw [← hρ]; kernel_rfl
      clear hρ hV
      refine runs_val (v := .pointer (some ⟨B, 2, none⟩)) (w' := w) ?_ ⟨Below.refl _ _, rfl⟩
      clear ht1 ht2 hS hC
      go_simp <;> (first | exact IntWalk.u64_in _ (by omega) | exact IntWalk.u32_in _ (by omega) | exact IntWalk.u16_in _ (by omega) | exact IntWalk.u8_in _ (by omega) | exact IntWalk.i64_in _ (by omega) | skip)
    case z4_1o12 =>
      intro vs w t hC ht1 ht2 hS hV
      rw [if_pos (by kernel_rfl)]
      generalize hρ : rho _ _ _ vs = ρ
      have d18 : (vs 11) = .pointer (some ⟨B, 2, none⟩) := hV 11 (by kernel_rfl)
      have e18 : ρ (.tmp 18) = vs 11 := by rw [← hρ]; kernel_rfl
      rw [d18] at e18; clear d18
      clear hρ hV
      refine runs_val (v := .pointer (some ⟨B, 3, none⟩)) (w' := w) ?_ ⟨Below.refl _ _, rfl⟩
      clear ht1 ht2 hS hC
      go_simp <;> (first | exact IntWalk.u64_in _ (by omega) | exact IntWalk.u32_in _ (by omega) | exact IntWalk.u16_in _ (by omega) | exact IntWalk.u8_in _ (by omega) | exact IntWalk.i64_in _ (by omega) | skip)
    case z4_1o13 =>
      intro vs w t hC ht1 ht2 hS hV
      rw [if_pos (by kernel_rfl)]
      generalize hρ : rho _ _ _ vs = ρ
      have d19 : (vs 12) = .pointer (some ⟨B, 3, none⟩) := hV 12 (by kernel_rfl)
      have e19 : ρ (.tmp 19) = vs 12 := by rw [← hρ]; kernel_rfl
      rw [d19] at e19; clear d19
      clear hρ hV
      have c0 := blk_cell (HLG.out w hC.1) 3
      refine runs_val (v := .int .u32 bt) (w' := w) ?_ ⟨Below.refl _ _, rfl⟩
      clear ht1 ht2 hS hC
      go_simp
    case z4_1o14 =>
      intro vs w hC hS hV
      replace hS : ∃ v, Pn w gp gp ([86] ++ lowN ep 2 ++ lowN sq 2 ++ lowN nx 2) v := hS
      rw [if_pos (by kernel_rfl)]
      generalize hρ : rho _ _ _ vs = ρ
      have d17 : (vs 10) = .pointer (some ⟨gp, 0, none⟩) := hV 10 (by kernel_rfl)
      have e17 : ρ (.tmp 17) = vs 10 := by rw [← hρ]; kernel_rfl
      rw [d17] at e17; clear d17
      have d20 : (vs 13) = .int .u32 bt := hV 13 (by kernel_rfl)
      have e20 : ρ (.tmp 20) = vs 13 := by rw [← hρ]; kernel_rfl
      rw [d20] at e20; clear d20
      have ef39 : ρ (.func 39) = .func (.func 39) #[] #[] := by rw [← hρ]; rfl
      clear hρ hV
      obtain ⟨v, hp⟩ := hS
      refine runs_call (f := 39) (args := #[.pointer (some ⟨gp, 0, none⟩), .int .u32 bt]) (w' := w) ?_ ?_
      · go_simp
      · refine (pword_any gp gp ([86] ++ lowN ep 2 ++ lowN sq 2 ++ lowN nx 2) v bt HE.out.2.2.2 w hp (Nat.le_refl _) (by first | (simp only [List.length_append, lowN_length, List.length_cons, List.length_nil]; omega) | simp)).mono ?_
        rintro e w5 ⟨v', rfl, h⟩
        exact ⟨_, rfl, ⟨hC.1.trans h.2.2.2, Nat.le_trans hC.2 h.2.1.1⟩, trivial, rfl, ⟨v', h.1⟩⟩
    case z4_1o15 =>
      intro vs w t hC ht1 ht2 hS hV
      rw [if_pos (by kernel_rfl)]
      generalize hρ : rho _ _ _ vs = ρ
      have e1 : ρ (.tmp 1) = .pointer (some ⟨B, 0, none⟩) := by rw [← hρ]; kernel_rfl
      clear hρ hV
      exact runs_load 72 (.tmp 1) rfl B e1 72 #[.int .u16 ep, .int .u16 sq, .int .u16 nx, .int .u32 bt, .bool fi, .bool la, .bool al, .slice A n c] (0, 0) _ (HLG.out w hC.1) Try.underlying72 rfl (frame_info _ _ _ _ _ _ _ _) ⟨Below.refl _ _, rfl⟩
    case z4_1o16 =>
      intro vs w t hC ht1 ht2 hS hV
      rw [if_pos (by kernel_rfl)]
      generalize hρ : rho _ _ _ vs = ρ
      have d22 : (vs 15) = .agg #[.int .u16 ep, .int .u16 sq, .int .u16 nx, .int .u32 bt, .bool fi, .bool la, .bool al, .slice A n c] := hV 15 (by kernel_rfl)
      have e22 : ρ (.tmp 22) = vs 15 := by rw [← hρ]; kernel_rfl
      rw [d22] at e22; clear d22
      have ef60 : ρ (.func 60) = .func (.func 60) #[] #[] := by rw [← hρ]; rfl
      clear hρ hV
      refine runs_call (f := 60) (args := #[.agg #[.int .u16 ep, .int .u16 sq, .int .u16 nx, .int .u32 bt, .bool fi, .bool la, .bool al, .slice A n c]]) (w' := w) ?_ ?_
      · go_simp
      · refine (KF.out w (HW0.out w hC.1)).mono ?_
        rintro e w5 ⟨rfl, hb5⟩
        exact ⟨_, rfl, hb5, rfl⟩
    case z4_1o17 =>
      intro vs w hC hS hV
      replace hS : ∃ v, Pn w gp gp ([86] ++ lowN ep 2 ++ lowN sq 2 ++ lowN nx 2 ++ lowN bt 4) v := hS
      rw [if_pos (by kernel_rfl)]
      generalize hρ : rho _ _ _ vs = ρ
      have d21 : (vs 14) = .pointer (some ⟨gp, 0, none⟩) := hV 14 (by kernel_rfl)
      have e21 : ρ (.tmp 21) = vs 14 := by rw [← hρ]; kernel_rfl
      rw [d21] at e21; clear d21
      have d23 : (vs 16) = .int .u8 fl := hV 16 (by kernel_rfl)
      have e23 : ρ (.tmp 23) = vs 16 := by rw [← hρ]; kernel_rfl
      rw [d23] at e23; clear d23
      have ef38 : ρ (.func 38) = .func (.func 38) #[] #[] := by rw [← hρ]; rfl
      clear hρ hV
      obtain ⟨v, hp⟩ := hS
      refine runs_call (f := 38) (args := #[.pointer (some ⟨gp, 0, none⟩), .int .u8 fl]) (w' := w) ?_ ?_
      · go_simp
      · refine (pbyte_any gp gp ([86] ++ lowN ep 2 ++ lowN sq 2 ++ lowN nx 2 ++ lowN bt 4) v fl  w hp (Nat.le_refl _) (by first | (simp only [List.length_append, lowN_length, List.length_cons, List.length_nil]; omega) | simp)).mono ?_
        rintro e w5 ⟨v', rfl, h⟩
        exact ⟨_, rfl, ⟨hC.1.trans h.2.2.2, Nat.le_trans hC.2 h.2.1.1⟩, trivial, rfl, ⟨v', h.1⟩⟩
    case z4_1o18 =>
      intro vs w t hC ht1 ht2 hS hV
      rw [if_pos (by kernel_rfl)]
      generalize hρ : rho _ _ _ vs = ρ
      have e1 : ρ (.tmp 1) = .pointer (some ⟨B, 0, none⟩) := by rw [← hρ]; kernel_rfl
      clear hρ hV
      refine runs_val (v := .pointer (some ⟨B, 7, none⟩)) (w' := w) ?_ ⟨Below.refl _ _, rfl⟩
      clear ht1 ht2 hS hC
      go_simp <;> (first | exact IntWalk.u64_in _ (by omega) | exact IntWalk.u32_in _ (by omega) | exact IntWalk.u16_in _ (by omega) | exact IntWalk.u8_in _ (by omega) | exact IntWalk.i64_in _ (by omega) | skip)
    case z4_1o19 =>
      intro vs w t hC ht1 ht2 hS hV
      rw [if_pos (by kernel_rfl)]
      generalize hρ : rho _ _ _ vs = ρ
      have d25 : (vs 18) = .pointer (some ⟨B, 7, none⟩) := hV 18 (by kernel_rfl)
      have e25 : ρ (.tmp 25) = vs 18 := by rw [← hρ]; kernel_rfl
      rw [d25] at e25; clear d25
      clear hρ hV
      have c0 := blk_cell (HLG.out w hC.1) 7
      refine runs_val (v := .slice A n c) (w' := w) ?_ ⟨Below.refl _ _, rfl⟩
      clear ht1 ht2 hS hC
      go_simp
    case z4_1o20 =>
      intro vs w t hC ht1 ht2 hS hV
      rw [if_pos (by kernel_rfl)]
      generalize hρ : rho _ _ _ vs = ρ
      have d26 : (vs 19) = .slice A n c := hV 19 (by kernel_rfl)
      have e26 : ρ (.tmp 26) = vs 19 := by rw [← hρ]; kernel_rfl
      rw [d26] at e26; clear d26
      clear hρ hV
      refine runs_val (v := .int .i64 n) (w' := w) ?_ ⟨Below.refl _ _, rfl⟩
      clear ht1 ht2 hS hC
      go_simp <;> (first | exact IntWalk.u64_in _ (by omega) | exact IntWalk.u32_in _ (by omega) | exact IntWalk.u16_in _ (by omega) | exact IntWalk.u8_in _ (by omega) | exact IntWalk.i64_in _ (by omega) | skip)
    case z4_1o21 =>
      intro vs w t hC ht1 ht2 hS hV
      rw [if_pos (by kernel_rfl)]
      generalize hρ : rho _ _ _ vs = ρ
      have d27 : (vs 20) = .int .i64 n := hV 20 (by kernel_rfl)
      have e27 : ρ (.tmp 27) = vs 20 := by rw [← hρ]; kernel_rfl
      rw [d27] at e27; clear d27
      clear hρ hV
      have hn8 := HN.out
      refine runs_val (v := .int .u8 n) (w' := w) ?_ ⟨Below.refl _ _, rfl⟩
      clear ht1 ht2 hS hC
      go_simp
      try exact IntWalk.u8_in _ (by omega)
    case z4_1o22 =>
      intro vs w hC hS hV
      replace hS : ∃ v, Pn w gp gp ([86] ++ lowN ep 2 ++ lowN sq 2 ++ lowN nx 2 ++ lowN bt 4 ++ [fl]) v := hS
      rw [if_pos (by kernel_rfl)]
      generalize hρ : rho _ _ _ vs = ρ
      have d24 : (vs 17) = .pointer (some ⟨gp, 0, none⟩) := hV 17 (by kernel_rfl)
      have e24 : ρ (.tmp 24) = vs 17 := by rw [← hρ]; kernel_rfl
      rw [d24] at e24; clear d24
      have d28 : (vs 21) = .int .u8 n := hV 21 (by kernel_rfl)
      have e28 : ρ (.tmp 28) = vs 21 := by rw [← hρ]; kernel_rfl
      rw [d28] at e28; clear d28
      have ef38 : ρ (.func 38) = .func (.func 38) #[] #[] := by rw [← hρ]; rfl
      clear hρ hV
      obtain ⟨v, hp⟩ := hS
      refine runs_call (f := 38) (args := #[.pointer (some ⟨gp, 0, none⟩), .int .u8 n]) (w' := w) ?_ ?_
      · go_simp
      · refine (pbyte_any gp gp ([86] ++ lowN ep 2 ++ lowN sq 2 ++ lowN nx 2 ++ lowN bt 4 ++ [fl]) v n  w hp (Nat.le_refl _) (by first | (simp only [List.length_append, lowN_length, List.length_cons, List.length_nil]; omega) | simp)).mono ?_
        rintro e w5 ⟨v', rfl, h⟩
        exact ⟨_, rfl, ⟨hC.1.trans h.2.2.2, Nat.le_trans hC.2 h.2.1.1⟩, trivial, rfl, ⟨v', h.1⟩⟩
    case z4_1e =>
      intro vs V2 hC hS hV
      replace hS : (fun (w : World) => ∃ v, Pn w gp gp (fHead ep sq nx bt fl n) v) V2 := hS
      have d7 : (vs 0) = .pointer (some ⟨gp, 0, none⟩) := hV 0 (Nat.le_of_ble_eq_true rfl)
      have d8 : (vs 1) = .pointer (some ⟨B, 0, none⟩) := hV 1 (Nat.le_of_ble_eq_true rfl)
      have d9 : (vs 2) = .int .u16 ep := hV 2 (Nat.le_of_ble_eq_true rfl)
      have d10 : (vs 3) = .pointer (some ⟨gp, 0, none⟩) := hV 3 (Nat.le_of_ble_eq_true rfl)
      have d11 : (vs 4) = .pointer (some ⟨B, 1, none⟩) := hV 4 (Nat.le_of_ble_eq_true rfl)
      have d12 : (vs 5) = .int .u16 sq := hV 5 (Nat.le_of_ble_eq_true rfl)
      have d13 : (vs 6) = .pointer (some ⟨gp, 0, none⟩) := hV 6 (Nat.le_of_ble_eq_true rfl)
      have d14 : (vs 7) = .pointer (some ⟨B, 2, none⟩) := hV 7 (Nat.le_of_ble_eq_true rfl)
      have d15 : (vs 8) = .pointer (some ⟨B, 2, none⟩) := hV 8 (Nat.le_of_ble_eq_true rfl)
      have d16 : (vs 9) = .int .u16 nx := hV 9 (Nat.le_of_ble_eq_true rfl)
      have d17 : (vs 10) = .pointer (some ⟨gp, 0, none⟩) := hV 10 (Nat.le_of_ble_eq_true rfl)
      have d18 : (vs 11) = .pointer (some ⟨B, 2, none⟩) := hV 11 (Nat.le_of_ble_eq_true rfl)
      have d19 : (vs 12) = .pointer (some ⟨B, 3, none⟩) := hV 12 (Nat.le_of_ble_eq_true rfl)
      have d20 : (vs 13) = .int .u32 bt := hV 13 (Nat.le_of_ble_eq_true rfl)
      have d21 : (vs 14) = .pointer (some ⟨gp, 0, none⟩) := hV 14 (Nat.le_of_ble_eq_true rfl)
      have d22 : (vs 15) = .agg #[.int .u16 ep, .int .u16 sq, .int .u16 nx, .int .u32 bt, .bool fi, .bool la, .bool al, .slice A n c] := hV 15 (Nat.le_of_ble_eq_true rfl)
      have d23 : (vs 16) = .int .u8 fl := hV 16 (Nat.le_of_ble_eq_true rfl)
      have d24 : (vs 17) = .pointer (some ⟨gp, 0, none⟩) := hV 17 (Nat.le_of_ble_eq_true rfl)
      have d25 : (vs 18) = .pointer (some ⟨B, 7, none⟩) := hV 18 (Nat.le_of_ble_eq_true rfl)
      have d26 : (vs 19) = .slice A n c := hV 19 (Nat.le_of_ble_eq_true rfl)
      have d27 : (vs 20) = .int .i64 n := hV 20 (Nat.le_of_ble_eq_true rfl)
      have d28 : (vs 21) = .int .u8 n := hV 21 (Nat.le_of_ble_eq_true rfl)
      have d29 : (vs 22) = .pointer (some ⟨gp, 0, none⟩) := hV 22 (Nat.le_of_ble_eq_true rfl)
      clear hV
      simp only [putAll]
      rw [d7, d8, d9, d10, d11, d12, d13, d14, d15, d16, d17, d18, d19, d20, d21, d22, d23, d24, d25, d26, d27, d28, d29]
      clear d7 d8 d9 d10 d11 d12 d13 d14 d15 d16 d17 d18 d19 d20 d21 d22 d23 d24 d25 d26 d27 d28 d29
      clear vs
      simp only [Act.put, List.setIfInBounds_toArray, List.set_cons_zero, List.set_cons_succ]
      obtain ⟨v2, hp2⟩ := hS
      have HP2 := Aside0.mk hp2
      have HB2 := Aside0.mk hC
      clear hp2 hC HP0 HB0
      go_wp2_with fail
      refine regionS (W := V2)
        [fun (w : World) (v : Value) => ∃ T, v = .agg T ∧ IsTab tab T,
         fun _ _ => True,
         fun _ v => v = .pointer (some ⟨B, 7, none⟩),
         fun _ v => v = .slice A n c,
         fun _ _ => True,
         fun _ _ => True,
         fun _ _ => True]
        [1, 4, 5, 6]
        (fun t => match t with | 0 => fun (rs : List Value) (w : World) => ∃ v, Pn w gp gp (fHead ep sq nx bt fl n) v | 1 => fun (rs : List Value) (w : World) => (Kd.int .u8).R 5 w gp (fun _ => True) (rs.getD 0 undef) (fHead ep sq nx bt fl n) | 2 => fun (rs : List Value) (w : World) => (Kd.int .u8).R 5 w gp (fun _ => True) (rs.getD 1 undef) (fHead ep sq nx bt fl n ++ D) | 3 => fun (rs : List Value) (w : World) => (Kd.int .u8).R 5 w gp (fun _ => True) (rs.getD 2 undef) (sealL (fHead ep sq nx bt fl n ++ D)) | 4 => fun (rs : List Value) (w : World) => (Kd.int .u8).R 5 w gp (fun _ => True) (rs.getD 3 undef) (sealL (fHead ep sq nx bt fl n ++ D)) | _ => fun _ _ => False)
        (fun _ _ _ => True) (fun w => Below gp V0 w ∧ gp ≤ w.heap.size)
        (fun j =>  none)
        [(0, some 30), (1, some 31), (2, some 32), (3, some 33), (4, some 34), (5, some 35), (6, some 2)]
        []
        (by kernel_rfl) (by kernel_rfl) (by kernel_rfl) (by kernel_rfl) (by kernel_rfl) ?z5_2c ?z5_2i ?z5_2b ?z5_2d ?z5_2g ⟨?z5_2t0, ?z5_2t1, ?z5_2t2, ?z5_2t3, ?z5_2t4, ?z5_2t5, ?z5_2t6, trivial⟩ ⟨?z5_2o0, ?z5_2o1, ?z5_2o2, ?z5_2o3, ?z5_2o4, ?z5_2o5, ?z5_2o6, trivial⟩ ?z5_2e
      case z5_2c => exact ⟨HB2.out.1.trans (below_drew (Below.refl _ _)), HB2.out.2⟩
      case z5_2i => exact ⟨_, HP2.out.below (below_drew (Below.refl _ _))⟩
      case z5_2b => intro w w' hb h; exact ⟨h.1.trans (hb.mono h.2), Nat.le_trans h.2 hb.size⟩
      case z5_2d =>
        intro t rs w w' hb h
        match t, h with
        | 0, h => (replace h : ∃ v, Pn w gp gp (fHead ep sq nx bt fl n) v := h); show ∃ v, Pn w' gp gp (fHead ep sq nx bt fl n) v; first | exact Kd.R_below h hb | (obtain ⟨v, h⟩ := h; exact ⟨v, h.below hb⟩)
        | 1, h => (replace h : (Kd.int .u8).R 5 w gp (fun _ => True) (rs.getD 0 undef) (fHead ep sq nx bt fl n) := h); show (Kd.int .u8).R 5 w' gp (fun _ => True) (rs.getD 0 undef) (fHead ep sq nx bt fl n); first | exact Kd.R_below h hb | (obtain ⟨v, h⟩ := h; exact ⟨v, h.below hb⟩)
        | 2, h => (replace h : (Kd.int .u8).R 5 w gp (fun _ => True) (rs.getD 1 undef) (fHead ep sq nx bt fl n ++ D) := h); show (Kd.int .u8).R 5 w' gp (fun _ => True) (rs.getD 1 undef) (fHead ep sq nx bt fl n ++ D); first | exact Kd.R_below h hb | (obtain ⟨v, h⟩ := h; exact ⟨v, h.below hb⟩)
        | 3, h => (replace h : (Kd.int .u8).R 5 w gp (fun _ => True) (rs.getD 2 undef) (sealL (fHead ep sq nx bt fl n ++ D)) := h); show (Kd.int .u8).R 5 w' gp (fun _ => True) (rs.getD 2 undef) (sealL (fHead ep sq nx bt fl n ++ D)); first | exact Kd.R_below h hb | (obtain ⟨v, h⟩ := h; exact ⟨v, h.below hb⟩)
        | 4, h => (replace h : (Kd.int .u8).R 5 w gp (fun _ => True) (rs.getD 3 undef) (sealL (fHead ep sq nx bt fl n ++ D)) := h); show (Kd.int .u8).R 5 w' gp (fun _ => True) (rs.getD 3 undef) (sealL (fHead ep sq nx bt fl n ++ D)); first | exact Kd.R_below h hb | (obtain ⟨v, h⟩ := h; exact ⟨v, h.below hb⟩)
        | _ + 5, h => exact h.elim
      case z5_2g =>
        intro j hj; cases hj
      case z5_2t0 => exact ⟨(by intro w w' v hb h; exact h), (by intro k hk hne w w' v ht h; exact h)⟩
      case z5_2t1 => exact StabS.const _ _ _ _
      case z5_2t2 => exact StabS.const _ _ _ _
      case z5_2t3 => exact StabS.const _ _ _ _
      case z5_2t4 => exact StabS.const _ _ _ _
      case z5_2t5 => exact StabS.const _ _ _ _
      case z5_2t6 => exact StabS.const _ _ _ _
      case z5_2o0 =>
        intro vs w t hC ht1 ht2 hS hV
        rw [if_pos (by kernel_rfl)]
        generalize hρ : rho _ _ _ vs = ρ
        have ef61 : ρ (.func 61) = .func (.func 61) #[] #[] := by rw [← hρ]; rfl
        clear hρ hV
        refine runs_call (f := 61) (args := #[]) (w' := w) ?_ ?_
        · go_simp
        · refine (make_any w).mono ?_
          rintro e w5 ⟨T, rfl, hT, hb5⟩
          exact ⟨_, rfl, hb5, T, rfl, hT⟩
      case z5_2o1 =>
        intro vs w hC hS hV
        replace hS : ∃ v, Pn w gp gp (fHead ep sq nx bt fl n) v := hS
        rw [if_pos (by kernel_rfl)]
        generalize hρ : rho _ _ _ vs = ρ
        have e3 : ρ (.tmp 3) = .pointer (some ⟨gp, 0, none⟩) := by rw [← hρ]; kernel_rfl
        have ef40 : ρ (.func 40) = .func (.func 40) #[] #[] := by rw [← hρ]; rfl
        clear hρ hV
        obtain ⟨v, hp⟩ := hS
        refine runs_call (f := 40) (args := #[.pointer (some ⟨gp, 0, none⟩)]) (w' := w) ?_ ?_
        · go_simp
        · refine (pbytes_any gp gp (fHead ep sq nx bt fl n) v w hp (by rw [fHead_len]; omega)).mono ?_
          rintro e w5 ⟨v9, rfl, hr9, hb9⟩
          exact ⟨_, rfl, ⟨hC.1.trans (hb9.mono hC.2), Nat.le_trans hC.2 hb9.size⟩, trivial, trivial, Kd.R_lower hr9 hC.2⟩
      case z5_2o2 =>
        intro vs w t hC ht1 ht2 hS hV
        rw [if_pos (by kernel_rfl)]
        generalize hρ : rho _ _ _ vs = ρ
        have e1 : ρ (.tmp 1) = .pointer (some ⟨B, 0, none⟩) := by rw [← hρ]; kernel_rfl
        clear hρ hV
        refine runs_val (v := .pointer (some ⟨B, 7, none⟩)) (w' := w) ?_ ⟨Below.refl _ _, rfl⟩
        clear ht1 ht2 hS hC
        go_simp <;> (first | exact IntWalk.u64_in _ (by omega) | exact IntWalk.u32_in _ (by omega) | exact IntWalk.u16_in _ (by omega) | exact IntWalk.u8_in _ (by omega) | exact IntWalk.i64_in _ (by omega) | skip)
      case z5_2o3 =>
        intro vs w t hC ht1 ht2 hS hV
        rw [if_pos (by kernel_rfl)]
        generalize hρ : rho _ _ _ vs = ρ
        have d32 : (vs 2) = .pointer (some ⟨B, 7, none⟩) := hV 2 (by kernel_rfl)
        have e32 : ρ (.tmp 32) = vs 2 := by rw [← hρ]; kernel_rfl
        rw [d32] at e32; clear d32
        clear hρ hV
        have c0 := blk_cell (HLG.out w hC.1) 7
        refine runs_val (v := .slice A n c) (w' := w) ?_ ⟨Below.refl _ _, rfl⟩
        clear ht1 ht2 hS hC
        go_simp
      case z5_2o4 =>
        intro vs w hC hS hV
        replace hS : (Kd.int .u8).R 5 w gp (fun _ => True) (vs 1) (fHead ep sq nx bt fl n) := hS
        rw [if_pos (by kernel_rfl)]
        generalize hρ : rho _ _ _ vs = ρ
        have d31 : (fun (w : World) (v : Value) => True) w (vs 1) := hV 1 (by kernel_rfl)
        have e31 : ρ (.tmp 31) = vs 1 := by rw [← hρ]; kernel_rfl
        have d33 : (vs 3) = .slice A n c := hV 3 (by kernel_rfl)
        have e33 : ρ (.tmp 33) = vs 3 := by rw [← hρ]; kernel_rfl
        rw [d33] at e33; clear d33
        clear hρ hV
        refine runs_append (Kd.int .u8) (Rr := fun x cs => cs = [.int .u8 x]) gp 31 33 23 5 (.int .u8 0) 1 rfl Try.underlying23 np_info rfl (by decide) (by decide) (vs 1) (fHead ep sq nx bt fl n) D A n c (fun _ => True) (fun _ => False) e31 e33 hS (HF.out w (HW0.out w hC.1)) (fun _ _ h => h) (fun _ h => h.elim) (fun _ _ => trivial) hC.2 (by have := HN.out; rw [fHead_len]; omega) ?_
        intro v1 w1 h1 hg1 hat
        exact ⟨⟨hC.1.trans ((Below.refl gp w).grown hg1 hC.2 (fun j hj => Kd.R_base hS j hj)), Nat.le_trans hC.2 hg1.size⟩, trivial, trivial, h1⟩
      case z5_2o5 =>
        intro vs w hC hS hV
        replace hS : (Kd.int .u8).R 5 w gp (fun _ => True) (vs 4) (fHead ep sq nx bt fl n ++ D) := hS
        rw [if_pos (by kernel_rfl)]
        generalize hρ : rho _ _ _ vs = ρ
        have d30 : (fun (w : World) (v : Value) => ∃ T, v = .agg T ∧ IsTab tab T) w (vs 0) := hV 0 (by kernel_rfl)
        have e30 : ρ (.tmp 30) = vs 0 := by rw [← hρ]; kernel_rfl
        obtain ⟨T, hTe30, hI⟩ := d30
        have d34 : (fun (w : World) (v : Value) => True) w (vs 4) := hV 4 (by kernel_rfl)
        have e34 : ρ (.tmp 34) = vs 4 := by rw [← hρ]; kernel_rfl
        have ef62 : ρ (.func 62) = .func (.func 62) #[] #[] := by rw [← hρ]; rfl
        clear hρ hV
        obtain ⟨A5, c5, h5, l5, q5⟩ := Kd.R_reads hS
        have hlen : (fHead ep sq nx bt fl n ++ D).length ≤ 140737488351232 := by have := HN.out; have h7 := (HF.out w (HW0.out w hC.1)).1; rw [List.length_append, fHead_len]; omega
        rw [h5] at e34
        rw [hTe30] at e30
        refine runs_call (f := 62) (args := #[.agg T, .slice A5 (fHead ep sq nx bt fl n ++ D).length c5]) (w' := w) ?_ ?_
        · go_simp
        · refine (seal_any tab T A5 _ c5 _ w hI q5 l5 HHB2.out hlen).mono ?_
          rintro e w5 ⟨v9, rfl, hr9, hb9⟩
          exact ⟨_, rfl, ⟨hC.1.trans (hb9.mono hC.2), Nat.le_trans hC.2 hb9.size⟩, trivial, trivial, Kd.R_lower hr9 hC.2⟩
      case z5_2o6 =>
        intro vs w hC hS hV
        replace hS : (Kd.int .u8).R 5 w gp (fun _ => True) (vs 5) (sealL (fHead ep sq nx bt fl n ++ D)) := hS
        rw [if_pos (by kernel_rfl)]
        generalize hρ : rho _ _ _ vs = ρ
        have d35 : (fun (w : World) (v : Value) => True) w (vs 5) := hV 5 (by kernel_rfl)
        have e35 : ρ (.tmp 35) = vs 5 := by rw [← hρ]; kernel_rfl
        clear hρ hV
        refine runs_val (v := vs 5) (w' := w) ?_ ⟨hC, trivial, trivial, hS⟩
        clear hS hC
        go_simp
      case z5_2e =>
        intro vs V3 hC hS hV
        replace hS : (fun (w : World) => (Kd.int .u8).R 5 w gp (fun _ => True) (vs 6) (sealL (fHead ep sq nx bt fl n ++ D))) V3 := hS
        have d30 : (fun (w : World) (v : Value) => ∃ T, v = .agg T ∧ IsTab tab T) V3 (vs 0) := hV 0 (Nat.le_of_ble_eq_true rfl)
        have d31 : (fun (w : World) (v : Value) => True) V3 (vs 1) := hV 1 (Nat.le_of_ble_eq_true rfl)
        have d32 : (vs 2) = .pointer (some ⟨B, 7, none⟩) := hV 2 (Nat.le_of_ble_eq_true rfl)
        have d33 : (vs 3) = .slice A n c := hV 3 (Nat.le_of_ble_eq_true rfl)
        have d34 : (fun (w : World) (v : Value) => True) V3 (vs 4) := hV 4 (Nat.le_of_ble_eq_true rfl)
        have d35 : (fun (w : World) (v : Value) => True) V3 (vs 5) := hV 5 (Nat.le_of_ble_eq_true rfl)
        have d2 : (fun (w : World) (v : Value) => True) V3 (vs 6) := hV 6 (Nat.le_of_ble_eq_true rfl)
        clear hV
        simp only [putAll]
        rw [d32, d33]
        clear d32 d33
        generalize vs 0 = v30 at *
        generalize vs 1 = v31 at *
        generalize vs 4 = v34 at *
        generalize vs 5 = v35 at *
        generalize vs 6 = v2 at *
        clear vs
        simp only [Act.put, List.setIfInBounds_toArray, List.set_cons_zero, List.set_cons_succ]
        have HR2 := Aside0.mk (Kd.R_lower hS (Nat.le_of_lt GD.out))
        have HB3 := Aside0.mk (HW0.out _ hC.1)
        clear hS hC
        go_wp2_with fail
        go_ret
        rw [HFB.out]
        exact ⟨_, rfl, HR2.out, HB3.out⟩
end Go.Proofs.Yticpjidcgaaldaa

namespace Go.Proofs.Yticpjidcgaaldaa
open Go.RowKit Go.Proofs.YticpjidcgaaldaaW.PrintWords Go.Proofs.YticpjidcgaaldaaW.PrintLast Go.Proofs.YticpjidcgaaldaaW.PrintMore
set_option linter.unusedVariables false
set_option linter.unusedSimpArgs false

def numR (sh acc : Nat) : List Int → Option (Nat × List Int)
  | [] => none
  | b :: l => if (0 < sh ∧ b = 0) ∨ 63 < sh ∨ 18446744073709551615 / 2 ^ sh < b.toNat % 128 then none else if b < 128 then some (acc + b.toNat % 128 * 2 ^ sh, l) else numR (sh + 7) (acc + b.toNat % 128 * 2 ^ sh) l
def numB (bad : Bool) (sh acc : Nat) (l : List Int) : Option (Nat × List Int) := if bad = true then none else numR sh acc l
def eRes (most : Nat) : Option (Nat × List Int) → Int × List Int × Bool
  | none => (0, [], true)
  | some (n, l') => if most < n then (0, [], true) else ((n : Int), l', false)
def eNum (most : Nat) (l : List Int) (bad : Bool) : Int × List Int × Bool := eRes most (numB bad 0 0 l)
theorem or_u64 (acc m sh : Nat) (ha : acc < 2 ^ sh) (h63 : ¬ 63 < sh) (hv : ¬ 18446744073709551615 / 2 ^ sh < m % 128) (ha2 : acc < 18446744073709551616) :
    bits .or .u64 (acc : Int) (IntKind.u64.wrap ((m : Int) % 128 * 2 ^ sh)) = ((acc + m % 128 * 2 ^ sh : Nat) : Int) ∧ acc + m % 128 * 2 ^ sh < 18446744073709551616 ∧ acc + m % 128 * 2 ^ sh < 2 ^ (sh + 7) := by
  have hpos : 0 < 2 ^ sh := Nat.two_pow_pos sh
  have h1 : m % 128 * 2 ^ sh ≤ 18446744073709551615 := (Nat.le_div_iff_mul_le hpos).1 (by omega)
  have h2 : IntKind.u64.wrap ((m : Int) % 128 * 2 ^ sh) = ((m % 128 * 2 ^ sh : Nat) : Int) := by
    rw [show (m : Int) % 128 * 2 ^ sh = ((m % 128 * 2 ^ sh : Nat) : Int) by push_cast; rfl, IntKind.wrap_u64]
    omega
  have h3 : acc ||| m % 128 * 2 ^ sh = acc + m % 128 * 2 ^ sh := by rw [or_at sh acc (m % 128) ha, Nat.mul_comm]
  refine ⟨by rw [h2, u64_or_nat _ _ ha2 (by omega), h3], ?_, ?_⟩
  · rw [← h3]
    have : acc ||| m % 128 * 2 ^ sh < 2 ^ 64 := Nat.or_lt_two_pow (by omega) (by omega)
    omega
  · have h4 : m % 128 * 2 ^ sh ≤ 127 * 2 ^ sh := Nat.mul_le_mul_right _ (by omega)
    rw [Nat.pow_add]
    omega
theorem andnot128 (m : Nat) (h : m < 256) : bits .andNot .u8 (m : Int) 128 = ((m % 128 : Nat) : Int) := by
  rw [show (128 : Int) = ((128 : Nat) : Int) from rfl, u8_andNot_nat m 128 h (by omega), show (255 - 128 : Nat) = 2 ^ 7 - 1 from rfl, Nat.and_two_pow_sub_one_eq_mod]

def EInv (w wr : World) (g B : Nat) (r : Option (Nat × List Int)) (sh acc : Nat) : Prop := ∃ cur bad, EyTo w wr g B cur bad ∧ r = numB bad sh acc cur ∧ Bytes cur ∧ acc < 2 ^ sh ∧ acc < 18446744073709551616 ∧ sh ≤ 70

theorem nat_pos_int (n : Nat) : decide (0 < (n : Int)) = decide (0 < n) := decide_eq_decide.2 (by omega)
theorem enum_quo (sh m : Nat) : ((18446744073709551615 : Int) / 2 ^ sh < (m : Int) % 128) ↔ 18446744073709551615 / 2 ^ sh < m % 128 := by
  have h : ∀ a : Nat, (a : Int) / 2 ^ sh = ((a / 2 ^ sh : Nat) : Int) := fun a => by simp
  have := h 18446744073709551615
  rw [show (18446744073709551615 : Int) = ((18446744073709551615 : Nat) : Int) from rfl, this]; omega
theorem enum_facts (sh m : Nat) : ((decide (0 < (sh : Int)) = false ∨ ((m : Int) == 0) = false) ∧ decide (63 < (sh : Int)) = false ∧ decide ((18446744073709551615 : Int) / 2 ^ sh < (m : Int) % 128) = false → ¬ ((0 < sh ∧ (m : Int) = 0) ∨ 63 < sh ∨ 18446744073709551615 / 2 ^ sh < m % 128)) ∧
    (¬ ((decide (0 < (sh : Int)) = false ∨ ((m : Int) == 0) = false) ∧ decide (63 < (sh : Int)) = false ∧ decide ((18446744073709551615 : Int) / 2 ^ sh < (m : Int) % 128) = false) →
      ((decide (0 < (sh : Int)) = true ∧ ((m : Int) == 0) = true) ∨ ((decide (0 < (sh : Int)) = true ∧ ((m : Int) == 0) = false) ∧ decide (63 < (sh : Int)) = true) ∨ (decide (0 < (sh : Int)) = false ∧ decide (63 < (sh : Int)) = true) ∨
        ((decide (0 < (sh : Int)) = true ∧ ((m : Int) == 0) = false) ∧ decide (63 < (sh : Int)) = false ∧ decide ((18446744073709551615 : Int) / 2 ^ sh < (m : Int) % 128) = true) ∨ (decide (0 < (sh : Int)) = false ∧ decide (63 < (sh : Int)) = false ∧ decide ((18446744073709551615 : Int) / 2 ^ sh < (m : Int) % 128) = true))) := by
  constructor
  · rintro ⟨h1, h2, h3⟩ (⟨a, b⟩ | a | a)
    · rcases h1 with h1 | h1
      · have := of_decide_eq_false h1; omega
      · rw [b] at h1; simp at h1
    · have := of_decide_eq_false h2; omega
    · exact of_decide_eq_false h3 ((enum_quo sh m).2 a)
  · generalize decide (0 < (sh : Int)) = a
    generalize ((m : Int) == 0) = b
    generalize decide (63 < (sh : Int)) = c
    generalize decide ((18446744073709551615 : Int) / 2 ^ sh < (m : Int) % 128) = d
    revert a b c d
    decide
theorem enum_no (sh m : Nat) (h : ¬ ((0 < sh ∧ (m : Int) = 0) ∨ 63 < sh ∨ 18446744073709551615 / 2 ^ sh < m % 128)) :
    (decide (0 < (sh : Int)) = false ∨ (decide (0 < (sh : Int)) = true ∧ ((m : Int) == 0) = false)) ∧ decide (63 < (sh : Int)) = false ∧ decide ((18446744073709551615 : Int) / 2 ^ sh < (m : Int) % 128) = false := by
  refine ⟨?_, decide_eq_false (fun a => h (.inr (.inl (by omega)))), decide_eq_false (fun a => h (.inr (.inr ((enum_quo sh m).1 a))))⟩
  by_cases a : 0 < sh
  · refine .inr ⟨decide_eq_true (by omega), ?_⟩
    cases b : ((m : Int) == 0)
    · rfl
    · exact absurd (.inl ⟨a, by simpa using b⟩) h
  · exact .inl (decide_eq_false (by omega))

set_option maxRecDepth 100000 in
set_option maxHeartbeats 4000000 in
theorem enum_any (g B : Nat) (l : List Int) (bad : Bool) (most : Nat) (w : World) (hk : Ey w g B l bad) (hb : Bytes l) (hm : most < 18446744073709551616) :
    Calls Try.prog 82 #[.pointer (some ⟨g, 0, none⟩), .int .u64 most] w fun e w' => e = .returned (.int .u64 (eNum most l bad).1) ∧ EyTo w w' g B (eNum most l bad).2.1 (eNum most l bad).2.2 := by
  unfold eNum
  obtain ⟨r, hr⟩ : ∃ r, numB bad 0 0 l = r := ⟨_, rfl⟩
  rw [hr]
  obtain ⟨⟨rv, rl, rb⟩, hres⟩ : ∃ x, eRes most r = x := ⟨_, rfl⟩
  rw [hres]
  have HRES := Aside0.mk hres
  clear hres
  show Calls Try.prog 82 #[.pointer (some ⟨g, 0, none⟩), .int .u64 most] w fun e w' => e = .returned (.int .u64 rv) ∧ EyTo w w' g B rl rb
  have H0 : Aside0 (EInv w w g B r 0 0) := ⟨l, bad, EyTo.refl hk, hr.symm, hb, by decide, by decide, by decide⟩
  clear hk hb hr
  go_enter Try.func82, Try.ntmps82
  go_wp2_with fail
  go_loopw [5, 6] (fun v5 v6 wr => ∃ sh acc : Nat, v5 = .int .u64 acc ∧ v6 = .int .i64 sh ∧ sh ≤ 70 ∧ Aside0 (EInv w wr g B r sh acc)) (fun v5 v6 _ => 77 - (intOf v6).toNat)
  case atStart => exact ⟨0, 0, rfl, rfl, by decide, H0⟩
  case round =>
    clear H0
    obtain ⟨sh, acc, rfl, rfl, hsh, H⟩ := hrel
    obtain ⟨cur, bd, hE, hr, hby, ha, ha2, _⟩ := H.out
    have KEY := Aside0.mk (ebyte_any g B cur bd wr hE.1)
    have HE := Aside0.mk hE
    have HR := Aside0.mk hr
    have HBY := Aside0.mk hby
    have HA := Aside0.mk (⟨ha, ha2⟩ : acc < 2 ^ sh ∧ acc < 18446744073709551616)
    clear hE hr hby ha ha2 H
    go_wp2_with fail
    refine KEY.out.mono ?_
    rintro e w1 ⟨rfl, h⟩
    unfold eByte at h ⊢
    by_cases hc : bd = true ∨ cur.length < 1
    · rw [if_pos hc] at h ⊢
      have hrn : r = none := by
        rw [HR.out]; unfold numB
        rcases hc with h | h
        · rw [if_pos h]
        · split
          · rfl
          · match cur, h with
            | [], _ => rfl
      subst hrn
      obtain ⟨rfl, rfl, rfl⟩ : rv = 0 ∧ rl = [] ∧ rb = true := by have := HRES.out; simp only [eRes, Prod.mk.injEq] at this; exact ⟨this.1.symm, this.2.1.symm, this.2.2.symm⟩
      have H1 := Aside0.mk (HE.out.trans h)
      have KW := Aside0.mk (wrong_any g B [] true w1 h.1)
      have KF := Aside0.mk (efail_any g B [] true w1 h.1)
      have e0 : bits .andNot .u8 0 128 = 0 := by decide
      clear h KEY HE HR HBY HA hc
      go_wp2_with fail
      refine KW.out.mono ?_
      rintro e w2 ⟨rfl, rfl⟩
      clear KW
      go_wp2_with fail
      refine KF.out.mono ?_
      rintro e w3 ⟨rfl, h⟩
      have H2 := Aside0.mk (H1.out.trans h)
      clear KF h H1
      go_wp2_with fail
      go_ret
      exact ⟨rfl, H2.out⟩
    · rw [if_neg hc] at h ⊢
      obtain ⟨b, cur', hcur⟩ : ∃ b t, cur = b :: t := by
        match cur, hc with
        | [], hc => exact absurd (.inr (by simp)) hc
        | b :: t, _ => exact ⟨b, t, rfl⟩
      have hbd : bd = false := by
        cases bd
        · rfl
        · exact absurd (.inl rfl) hc
      subst hbd hcur
      have hbb := HBY.out b (by simp)
      have hby' : Bytes cur' := fun x hx => HBY.out x (List.mem_cons_of_mem _ hx)
      obtain ⟨m, rfl⟩ := Int.eq_ofNat_of_zero_le hbb.1
      simp only [List.headD_cons, List.drop_succ_cons, List.drop_zero] at h ⊢
      have hr := HR.out
      unfold numB at hr
      rw [if_neg (by decide)] at hr
      simp only [numR, Int.toNat_natCast] at hr
      have H1 := Aside0.mk (HE.out.trans h)
      have KW := Aside0.mk (wrong_any g B cur' false w1 h.1)
      have KF := Aside0.mk (efail_any g B cur' false w1 h.1)
      have HM := Aside0.mk hbb.2
      have e0 : bits .andNot .u8 (m : Int) 128 = ((m % 128 : Nat) : Int) := andnot128 m (by omega)
      clear h KEY HE HR HBY hc hbb
      by_cases hf : (0 < sh ∧ (m : Int) = 0) ∨ 63 < sh ∨ 18446744073709551615 / 2 ^ sh < m % 128
      · rw [if_pos hf] at hr
        subst hr
        obtain ⟨rfl, rfl, rfl⟩ : rv = 0 ∧ rl = [] ∧ rb = true := by have := HRES.out; simp only [eRes, Prod.mk.injEq] at this; exact ⟨this.1.symm, this.2.1.symm, this.2.2.symm⟩
        have key := enum_facts sh m
        have key2 : ¬ ((decide (0 < (sh : Int)) = false ∨ ((m : Int) == 0) = false) ∧ decide (63 < (sh : Int)) = false ∧ decide ((18446744073709551615 : Int) / 2 ^ sh < (m : Int) % 128) = false) := fun h => by
          have := key.1 h
          exact this hf
        have key3 := key.2 key2
        clear key key2 hf
        rcases key3 with ⟨d1, d2⟩ | ⟨⟨d1, d2⟩, d3⟩ | ⟨d1, d3⟩ | ⟨⟨d1, d2⟩, d3, d4⟩ | ⟨d1, d3, d4⟩
        all_goals
          have d1' := d1
          rw [nat_pos_int] at d1'
          try (have hmin : min sh 64 = sh := by have := of_decide_eq_false d3; omega)
          go_wp2_with fail
          refine KW.out.mono ?_
          rintro e w2 ⟨rfl, rfl⟩
          clear KW
          go_wp2_with fail
          refine KF.out.mono ?_
          rintro e w3 ⟨rfl, h⟩
          have H2 := Aside0.mk (H1.out.trans h)
          clear KF h H1
          go_wp2_with fail
          go_ret
          exact ⟨rfl, H2.out⟩
      · rw [if_neg hf] at hr
        have hno := enum_no sh m hf
        have h63 : ¬ 63 < sh := fun h => hf (.inr (.inl h))
        obtain ⟨E, hN1, hN2⟩ := or_u64 acc m sh HA.out.1 h63 (fun h => hf (.inr (.inr h))) HA.out.2
        generalize acc + m % 128 * 2 ^ sh = N at *
        have HRR := Aside0.mk hr
        have HSH := Aside0.mk h63
        have HN := Aside0.mk (⟨hN1, hN2⟩ : N < 18446744073709551616 ∧ N < 2 ^ (sh + 7))
        clear hr hf h63 hN1 hN2 HA
        obtain ⟨d1, d3, d4⟩ := hno
        by_cases hm8 : m < 128
        · have e8 : decide ((m : Int) < 128) = true := decide_eq_true (by omega)
          have e8' : decide (m < 128) = true := decide_eq_true hm8
          have hrr := HRR.out
          rw [if_pos (by omega)] at hrr
          subst hrr
          by_cases hmo : most < N
          · obtain ⟨rfl, rfl, rfl⟩ : rv = 0 ∧ rl = [] ∧ rb = true := by have := HRES.out; simp only [eRes, if_pos hmo, Prod.mk.injEq] at this; exact ⟨this.1.symm, this.2.1.symm, this.2.2.symm⟩
            have e9 : decide ((most : Int) < (N : Int)) = true := decide_eq_true (by omega)
            have e9' : decide (most < N) = true := decide_eq_true hmo
            clear HRR hm8 hmo
            rcases d1 with d1 | ⟨d1, d2⟩
            all_goals
              have d1' := d1
              rw [nat_pos_int] at d1'
              have hmin : min sh 64 = sh := by have := of_decide_eq_false d3; omega
              go_wp2_with fail
              refine KW.out.mono ?_
              rintro e w2 ⟨rfl, rfl⟩
              clear KW
              go_wp2_with fail
              refine KF.out.mono ?_
              rintro e w3 ⟨rfl, h⟩
              have H2 := Aside0.mk (H1.out.trans h)
              clear KF h H1
              go_wp2_with fail
              go_ret
              exact ⟨rfl, H2.out⟩
          · obtain ⟨rfl, rfl, rfl⟩ : rv = (N : Int) ∧ rl = cur' ∧ rb = false := by have := HRES.out; simp only [eRes, if_neg hmo, Prod.mk.injEq] at this; exact ⟨this.1.symm, this.2.1.symm, this.2.2.symm⟩
            have e9 : decide ((most : Int) < (N : Int)) = false := decide_eq_false (by omega)
            have e9' : decide (most < N) = false := decide_eq_false hmo
            clear HRR hm8 hmo KF
            rcases d1 with d1 | ⟨d1, d2⟩
            all_goals
              have d1' := d1
              rw [nat_pos_int] at d1'
              have hmin : min sh 64 = sh := by have := of_decide_eq_false d3; omega
              go_wp2_with fail
              refine KW.out.mono ?_
              rintro e w2 ⟨rfl, rfl⟩
              clear KW
              go_wp2_with fail
              go_ret
              exact ⟨rfl, H1.out⟩
        · have e8 : decide ((m : Int) < 128) = false := decide_eq_false (by omega)
          have e8' : decide (m < 128) = false := decide_eq_false hm8
          have hrr := HRR.out
          rw [if_neg (by omega)] at hrr
          have H2 : Aside0 (EInv w w1 g B r (sh + 7) N) := ⟨cur', false, H1.out, by rw [hrr]; rfl, hby', HN.out.2, HN.out.1, by have := HSH.out; omega⟩
          have HWS : wrap64 ((sh : Int) + 7) = ((sh + 7 : Nat) : Int) := by unfold wrap64; omega
          clear HRR hm8 hrr H1 KF
          rcases d1 with d1 | ⟨d1, d2⟩
          all_goals
            have d1' := d1
            rw [nat_pos_int] at d1'
            have hmin : min sh 64 = sh := by have := of_decide_eq_false d3; omega
            go_wp2_with fail
            refine KW.out.mono ?_
            rintro e w2 ⟨rfl, rfl⟩
            clear KW
            go_wp2_with fail
            go_roundw
            case rel => exact ⟨sh + 7, N, rfl, by first | rfl | (rw [← HWS]; rfl) | simp, by have := HSH.out; omega, H2⟩
            case measure => have := HSH.out; simp [intOf]; omega
end Go.Proofs.Yticpjidcgaaldaa

namespace Go.Proofs.Yticpjidcgaaldaa
open Go.RowKit Go.Proofs.YticpjidcgaaldaaW.PrintWords Go.Proofs.YticpjidcgaaldaaW.PrintLast Go.Proofs.YticpjidcgaaldaaW.PrintMore
set_option linter.unusedVariables false
set_option linter.unusedSimpArgs false

def eBlob (most : Nat) (l : List Int) (bad : Bool) : List Int × List Int × Bool :=
  match eNum most l bad with
  | (n, l', b') => if b' = true ∨ l'.length < n.toNat then ([], [], true) else (l'.take n.toNat, l'.drop n.toNat, false)
theorem numR_u64 (h : Nat) : ∀ (l : List Int) (sh acc n : Nat) (l' : List Int), numR sh acc l = some (n, l') → acc < 2 ^ sh → acc < 18446744073709551616 → n < 18446744073709551616 ∧ ∃ t, l = t ++ l'
  | [], sh, acc, n, l', h, _, _ => by cases h
  | b :: l, sh, acc, n, l', h, h1, h2 => by
    simp only [numR] at h
    split at h
    · cases h
    · rename_i hf
      obtain ⟨_, hN1, hN2⟩ := or_u64 acc b.toNat sh h1 (fun h => hf (.inr (.inl h))) (fun h => hf (.inr (.inr h))) h2
      split at h
      · simp only [Option.some.injEq, Prod.mk.injEq] at h
        obtain ⟨rfl, rfl⟩ := h
        exact ⟨hN1, [b], rfl⟩
      · obtain ⟨a1, t, rfl⟩ := numR_u64 0 l (sh + 7) _ n l' h hN2 hN1
        exact ⟨a1, b :: t, rfl⟩
theorem eNum_facts (most : Nat) (hm : most < 18446744073709551616) (l : List Int) (bad : Bool) (hb : Bytes l) : ∃ n : Nat, (eNum most l bad).1 = (n : Int) ∧ n ≤ most ∧ Bytes (eNum most l bad).2.1 ∧ (eNum most l bad).2.1.length ≤ l.length := by
  unfold eNum
  cases hr : numB bad 0 0 l with
  | none => exact ⟨0, rfl, Nat.zero_le _, Bytes.nil, Nat.zero_le _⟩
  | some p =>
    obtain ⟨n, l'⟩ := p
    unfold numB at hr
    split at hr
    · cases hr
    · obtain ⟨h1, t, rfl⟩ := numR_u64 0 l 0 0 n l' hr (by decide) (by decide)
      simp only [eRes]
      split
      · exact ⟨0, rfl, Nat.zero_le _, Bytes.nil, Nat.zero_le _⟩
      · exact ⟨n, rfl, by omega, fun x hx => hb x (List.mem_append_right _ hx), by simp⟩

set_option maxRecDepth 100000 in
set_option maxHeartbeats 4000000 in
theorem eblob_any (g B : Nat) (l : List Int) (bad : Bool) (most : Nat) (w : World) (hk : Ey w g B l bad) (hb : Bytes l) (hl : l.length ≤ 1000000) (hm : most ≤ 9223372036854775807) :
    Calls Try.prog 65 #[.pointer (some ⟨g, 0, none⟩), .int .i64 most] w fun e w' => ∃ w1 vo, e = .returned vo ∧ EyTo w w1 g B (eBlob most l bad).2.1 (eBlob most l bad).2.2 ∧ (Kd.int .u8).R 5 w' w1.heap.size (fun _ => True) vo (eBlob most l bad).1 ∧ Below w1.heap.size w1 w' := by
  unfold eBlob
  have KEY := Aside0.mk (enum_any g B l bad most w hk hb (by omega))
  obtain ⟨n, hn, hn1, hb2, hl2⟩ := eNum_facts most (by omega) l bad hb
  obtain ⟨⟨x, l', b'⟩, hx⟩ : ∃ x, eNum most l bad = x := ⟨_, rfl⟩
  rw [hx] at KEY hn hb2 hl2 ⊢
  simp only at KEY hn hb2 hl2 ⊢
  subst hn
  rw [Int.toNat_natCast]
  have e1 : (if (most : Int) > 0 then (most : Int) else 0) = (most : Int) := by split <;> omega
  have e2 : IntKind.u64.wrap (most : Int) = (most : Int) := by rw [IntKind.wrap_u64]; omega
  have HX := Aside0.mk hx
  have HN1 := Aside0.mk hn1
  have HL := Aside0.mk (Nat.le_trans hl2 hl)
  have HM := Aside0.mk hm
  clear hk hb hl hx hn1 hl2 hb2
  have hmax : max (most : Int) 0 = (most : Int) := by omega
  obtain ⟨⟨rv, rl, rb⟩, hres⟩ : ∃ y, (if b' = true ∨ l'.length < n then (([] : List Int), ([] : List Int), true) else (l'.take n, l'.drop n, false)) = y := ⟨_, rfl⟩
  rw [hres]
  have HRES := Aside0.mk hres
  clear hres
  show Calls Try.prog 65 #[.pointer (some ⟨g, 0, none⟩), .int .i64 most] w fun e w' => ∃ w1 vo, e = .returned vo ∧ EyTo w w1 g B rl rb ∧ (Kd.int .u8).R 5 w' w1.heap.size (fun _ => True) vo rv ∧ Below w1.heap.size w1 w'
  go_enter Try.func65, Try.ntmps65
  go_wp2_with fail
  refine KEY.out.mono ?_
  rintro e w1 ⟨rfl, h⟩
  have H1 := Aside0.mk h
  have KW := Aside0.mk (wrong_any g B l' b' w1 h.1)
  have KF := Aside0.mk (efail_any g B l' b' w1 h.1)
  have hll : l'.length ≤ 1000000 := HL.out
  have hc : b' = true ∨ (b' = false ∧ decide ((l'.length : Int) < (n : Int)) = true ∧ decide (l'.length < n) = true ∧ l'.length < n) ∨ (b' = false ∧ decide ((l'.length : Int) < (n : Int)) = false ∧ decide (l'.length < n) = false ∧ n ≤ l'.length) := by
    cases b'
    · rcases Nat.lt_or_ge l'.length n with h | h
      · exact .inr (.inl ⟨rfl, decide_eq_true (by omega), decide_eq_true h, h⟩)
      · exact .inr (.inr ⟨rfl, decide_eq_false (by omega), decide_eq_false (by omega), h⟩)
    · exact .inl rfl
  obtain ⟨ll, hlen⟩ : ∃ ll, l'.length = ll := ⟨_, rfl⟩
  rw [hlen] at hc hll
  have e3 : IntKind.u64.wrap (ll : Int) = (ll : Int) := by rw [IntKind.wrap_u64]; omega
  have HLEN := Aside0.mk hlen
  obtain ⟨A0, n0, c0', k1, k2, k3, k4, k5⟩ := h.1
  have hn0 : n0 = ll := by rw [← hlen]; exact k2.1.symm
  subst hn0
  have c0 := blk_cell k1 0
  clear h KEY hlen k1 k2 k3 k4 k5 e1
  rcases hc with rfl | ⟨rfl, d1, d1', hlt'⟩ | ⟨rfl, d1, d1', hge⟩
  · have R1 : Aside0 ((rv, rl, rb) = (([] : List Int), ([] : List Int), true)) := ⟨by rw [← HRES.out, if_pos (.inl rfl)]⟩
    obtain ⟨rfl, rfl, rfl⟩ : rv = [] ∧ rl = [] ∧ rb = true := by have := R1.out; simp only [Prod.mk.injEq] at this; exact this
    clear R1 hll
    go_wp2_with fail
    refine KW.out.mono ?_
    rintro e w2 ⟨rfl, rfl⟩
    clear KW
    go_wp2_with fail
    refine KF.out.mono ?_
    rintro e w3 ⟨rfl, h⟩
    have H2 := Aside0.mk (H1.out.trans h)
    clear KF h H1
    go_wp2_with fail
    go_ret
    exact ⟨_, _, rfl, H2.out, Kd.R_nil _ _ _ _ _, Below.refl _ _⟩
  · obtain ⟨rfl, rfl, rfl⟩ : rv = [] ∧ rl = [] ∧ rb = true := by
      have := HRES.out
      rw [if_pos (.inr (by rw [HLEN.out]; exact hlt'))] at this
      simp only [Prod.mk.injEq] at this; exact ⟨this.1.symm, this.2.1.symm, this.2.2.symm⟩
    clear hll hlt'
    go_wp2_with fail
    refine KW.out.mono ?_
    rintro e w2 ⟨rfl, rfl⟩
    clear KW
    go_wp2_with fail
    refine KF.out.mono ?_
    rintro e w3 ⟨rfl, h⟩
    have H2 := Aside0.mk (H1.out.trans h)
    clear KF h H1
    go_wp2_with fail
    go_ret
    exact ⟨_, _, rfl, H2.out, Kd.R_nil _ _ _ _ _, Below.refl _ _⟩
  · obtain ⟨rfl, rfl, rfl⟩ : rv = l'.take n ∧ rl = l'.drop n ∧ rb = false := by
      have := HRES.out
      rw [if_neg (by rw [HLEN.out]; rintro (h | h); cases h; omega)] at this
      simp only [Prod.mk.injEq] at this; exact ⟨this.1.symm, this.2.1.symm, this.2.2.symm⟩
    have KT := Aside0.mk (take_ok g B l' n w1 H1.out.1 (by rw [HLEN.out]; exact hge))
    have e4 : IntKind.i64.wrap (n : Int) = (n : Int) := by rw [IntKind.wrap_i64]; have := HN1.out; have := HM.out; omega
    have HN3 : Aside0 (n ≤ 100000000) := ⟨by omega⟩
    clear hll hge KF
    go_wp2_with fail
    refine KW.out.mono ?_
    rintro e w2 ⟨rfl, rfl⟩
    clear KW
    go_wp2_with fail
    refine KT.out.mono ?_
    rintro e w3 ⟨A', rfl, hC, h⟩
    have H2 := Aside0.mk (H1.out.trans h)
    have KC := Aside0.mk (clone_any A' n n _ w3 hC (by have := HN3.out; omega))
    clear KT h H1 hC
    go_wp2_with fail
    refine KC.out.mono ?_
    rintro e w4 ⟨vo, rfl, ho, hb⟩
    have HO := Aside0.mk ho
    have HBB := Aside0.mk hb
    clear KC ho hb
    go_wp2_with fail
    go_ret
    exact ⟨_, _, rfl, H2.out, HO.out, HBB.out⟩
end Go.Proofs.Yticpjidcgaaldaa
