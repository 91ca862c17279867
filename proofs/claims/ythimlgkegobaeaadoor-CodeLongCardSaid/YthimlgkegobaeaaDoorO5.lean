/- A region that draws its order, the law with a whole invariant: it may hang on what has been carried out, on what was told, on the world. And its use: operations that are chained (calls, appends, stores) among others that only read or make memory. -/
import Derived.Test.YthimlgkegobaeaaDoorO4
namespace Go.Proofs.YthimlgkegobaeaaDoor
open Go.RowKit Go.Proofs.YthimlgkegobaeaaDoorW.PrintWords Go.Proofs.YthimlgkegobaeaaDoorW.PrintLast Go.Proofs.YthimlgkegobaeaaDoorW.PrintMore
set_option linter.unusedVariables false

/-- The state on the way. -/
structure Inv5 (ops : Array Oper) (a0 : Act) (I : (Nat → Bool) → (Nat → Value) → World → Prop) (L : Nat → Bool) (vs : Nat → Value) (a : Act) (w : World) : Prop where
  defers : a.defers = a0.defers
  size : a.tmps.size = a0.tmps.size
  slot : ∀ s, a.tmps.getD s undef = look ops a0 L vs s
  closed : ∀ i o, ops[i]? = some o → L i = true → ∀ j, depOn o j = true → L j = true
  inv : I L vs w
section
variable {P : Program} {ops : Array Oper} {Q : Exit → Act → World → Prop} {a0 : Act} {I : (Nat → Bool) → (Nat → Value) → World → Prop} {yv : Nat → Option Bool}
variable (hok : regionOk ops a0.tmps.size = true)
  (hyv : ∀ (i : Nat) (o : Oper) (j : Nat) (b : Bool), ops[i]? = some o → o.guard = some (j, b) → ∀ L vs w, I L vs w → L j = true → boolOf (vs j) = yv j)
  (hop : ∀ i o, ops[i]? = some o → ∀ (L : Nat → Bool) (vs : Nat → Value) w, L i = false → (∀ k o', ops[k]? = some o' → L k = true → ∀ j, depOn o' j = true → L j = true) → (∀ j, depOn o j = true → L j = true) → I L vs w →
    if wants yv o = true then runs P o (rho ops a0 (depOn o) vs) w (fun v w' => I (fun k => if k = i then true else L k) (fun k => if k = i then v else vs k) w') else I (fun k => if k = i then true else L k) (fun k => if k = i then undef else vs k) w)
  (hend : ∀ (L : Nat → Bool) (vs : Nat → Value) w a, (∀ i, i < ops.size → L i = true) → I L vs w → a.defers = a0.defers → a.tmps.size = a0.tmps.size → (∀ s, a.tmps.getD s undef = look ops a0 (fun _ => true) vs s) → Q .normal a w)
include hend in
theorem end_ok5 {listed : Array Bool} {vs : Nat → Value} {a : Act} {w : World} (hall : ∀ i, i < ops.size → listed.getD i false = true) (J : Inv5 ops a0 I (fun i => listed.getD i false) vs a w) : Q .normal a w :=
  hend _ vs w a hall J.inv J.defers J.size (fun s => by rw [J.slot s]; exact look_all hall s)
include hok hyv hop hend in
theorem any_ok5 : ∀ (fuel : Nat) (listed : Array Bool) (vs : Nat → Value) (a : Act) (w : World), listed.size = ops.size → ((List.range ops.size).filter (fun i => !listed.getD i false)).length ≤ fuel →
    Inv5 ops a0 I (fun i => listed.getD i false) vs a w → wpAny P .any ops Q fuel listed a w
  | 0, listed, vs, a, w, hs, hc, J => by
    have hall : ∀ i, i < ops.size → listed.getD i false = true := by
      intro i hi
      cases hb : listed.getD i false with
      | true => rfl
      | false =>
        exfalso
        have hm : i ∈ (List.range ops.size).filter (fun i => !listed.getD i false) := List.mem_filter.2 ⟨List.mem_range.2 hi, by simp [hb]⟩
        have := List.length_pos_of_mem hm
        omega
    refine ⟨?_, end_ok5 hend hall J⟩
    rw [List.eq_nil_iff_forall_not_mem]
    intro j hj
    obtain ⟨h1, o, ho, _⟩ := mem_ready.1 hj
    have hjn : j < ops.size := (Array.getElem?_eq_some_iff.1 ho).1
    rw [getD_of_lt (by omega) true false, hall j hjn] at h1
    cases h1
  | fuel + 1, listed, vs, a, w, hs, hc, J => by
    refine ⟨fun hr => end_ok5 hend (all_listed hok hs hr) J, fun i hi => ?_⟩
    obtain ⟨h1, o, ho, hdeps⟩ := mem_ready.1 hi
    have hin : i < ops.size := (Array.getElem?_eq_some_iff.1 ho).1
    have hun : listed.getD i false = false := by rw [getD_of_lt (by omega) false true]; exact h1
    have F := fact_of hok ho
    have hdep : ∀ j, depOn o j = true → listed.getD j false = true := by
      intro j hj
      unfold depOn at hj
      rw [Array.any_eq_true'] at hj
      obtain ⟨e, he, hb⟩ := hj
      simp only [Bool.and_eq_true, beq_iff_eq] at hb
      obtain ⟨hb, rfl⟩ := hb
      exact hdeps e he hb
    -- what it reads
    have hlk : ∀ s, .tmp s ∈ o.op.operands → look ops a0 (fun i => listed.getD i false) vs s = look ops a0 (depOn o) vs s := by
      intro s hso
      unfold look
      rw [find_congr (q := fun k => depOn o k && dstOf ops k == some s)]
      intro k hk
      show (listed.getD k false && dstOf ops k == some s) = (depOn o k && dstOf ops k == some s)
      by_cases hd : dstOf ops k = some s
      · have e1 : listed.getD k false = depOn o k := by
          by_cases hki : k = i
          · subst hki
            rw [hun]
            cases hb : depOn o k with
            | false => rfl
            | true => exact absurd (F.back k hb) (by omega)
          · cases hb : depOn o k with
            | true => exact hdep k hb
            | false =>
              rcases F.reads s hso k hk hki hd with h | ⟨o', ho', h⟩
              · rw [hb] at h; cases h
              · cases hl : listed.getD k false with
                | false => rfl
                | true =>
                  have := J.closed k o' ho' hl i h
                  rw [hun] at this; cases this
        rw [e1]
      · have : (dstOf ops k == some s) = false := by simpa using hd
        rw [this, Bool.and_false, Bool.and_false]
    have hev : execOp a.eval o = execOp (rho ops a0 (depOn o) vs) o := by
      refine execOp_congr o F.sel fun x hx => ?_
      cases x with
      | tmp s =>
        show a.tmps.getD s undef = look ops a0 (depOn o) vs s
        rw [J.slot s]; exact hlk s hx
      | const v => rfl
      | global g => rfl
      | func f => rfl
    -- is it wanted
    have hw : Region.wanted o (yielded ops a.tmps) = wants yv o := by
      unfold Region.wanted wants
      cases hg : o.guard with
      | none => rfl
      | some jb =>
        obtain ⟨j, b⟩ := jb
        obtain ⟨hdj, hds⟩ := F.guard j b hg
        have hjn : j < ops.size := by have := F.back j hdj; omega
        obtain ⟨d, hd⟩ := Option.isSome_iff_exists.1 hds
        have Fj := fact_of hok (Array.getElem?_eq_getElem hjn)
        have hdj' : ops[j].dst = some d := by
          have := hd
          unfold dstOf at this
          rw [Array.getElem?_eq_getElem hjn] at this
          exact this
        have hsl : a.tmps.getD d undef = vs j := by
          rw [J.slot d]
          unfold look
          rw [find_unique (i := j) hjn (by simp only [hdep j hdj, hd, beq_self_eq_true, Bool.and_self]) (fun k hk hp => by
            by_cases e : k = j
            · exact e
            · simp only [Bool.and_eq_true, beq_iff_eq] at hp
              exact absurd hp.2 ((Fj.dst d hdj').2 k hk e))]
        have hdl : d < a.tmps.size := by rw [J.size]; exact (Fj.dst d hdj').1
        have hy : yielded ops a.tmps j = boolOf (vs j) := by
          unfold yielded
          have : (ops[j]?).bind (·.dst) = some d := hd
          rw [this]
          simp only [Option.bind_some]
          have e2 : a.tmps[d]? = some (vs j) := by
            rw [Array.getElem?_eq_getElem hdl]
            have : a.tmps.getD d undef = a.tmps[d] := by simp [Array.getD, hdl]
            rw [← this, hsl]
          rw [e2]
          cases vs j <;> rfl
        show (yielded ops a.tmps j == some b) = (yv j == some b)
        rw [hy, hyv i o j b ho hg _ vs w J.inv (hdep j hdj)]
    have hL : (fun k => (listed.setIfInBounds i true).getD k false) = (fun k => if k = i then true else listed.getD k false) := by
      funext k
      by_cases e : k = i
      · subst e; rw [if_pos rfl]; simp [Array.getD, hs, hin]
      · rw [if_neg e]; exact getD_set_ne false (Ne.symm e)
    have hI : ∀ v w', I (fun k => if k = i then true else listed.getD k false) (fun k => if k = i then v else vs k) w' → Inv5 ops a0 I (fun k => (listed.setIfInBounds i true).getD k false) (fun k => if k = i then v else vs k) (a.put o.dst v) w' := by
      intro v w' hIv
      have hgi : (listed.setIfInBounds i true).getD i false = true := by simp [Array.getD, hs, hin]
      have hgo : ∀ k, k ≠ i → (listed.setIfInBounds i true).getD k false = listed.getD k false := fun k hk => getD_set_ne false (Ne.symm hk)
      refine ⟨by rw [← J.defers]; cases o.dst <;> rfl, by rw [← J.size]; cases o.dst <;> simp [Act.put], fun s => ?_, fun k o' hk hl j hj => ?_, by rw [hL]; exact hIv⟩
      · by_cases hd : o.dst = some s
        · have Fd := F.dst s hd
          have e1 : (a.put o.dst v).tmps.getD s undef = v := by
            rw [hd]; simp [Act.put, Array.getD, J.size, Fd.1]
          rw [e1]
          unfold look
          rw [find_unique (i := i) hin (by simp only [hgi, dstOf, ho, Option.bind_some, hd, beq_self_eq_true, Bool.and_self]) (fun k hk hp => by
            by_cases e : k = i
            · exact e
            · simp only [Bool.and_eq_true, beq_iff_eq] at hp
              exact absurd hp.2 (Fd.2 k hk e))]
          simp
        · have e1 : (a.put o.dst v).tmps.getD s undef = a.tmps.getD s undef := by
            cases hdo : o.dst with
            | none => rfl
            | some d =>
              have hne : d ≠ s := fun e => hd (by rw [hdo, e])
              have := Act.eval_put (a := a) (dst := some d) (v := v) (x := .tmp s) (fun d' hd' => by cases hd'; intro e; cases e; exact hne rfl)
              exact this
          rw [e1, J.slot s]
          unfold look
          rw [find_congr (p := fun k => (listed.setIfInBounds i true).getD k false && dstOf ops k == some s) (q := fun k => listed.getD k false && dstOf ops k == some s) (fun k hk => by
            by_cases e : k = i
            · subst e
              have : (dstOf ops k == some s) = false := by simp only [dstOf, ho, Option.bind_some, beq_eq_false_iff_ne]; exact hd
              rw [this, Bool.and_false, Bool.and_false]
            · rw [hgo k e])]
          cases hf : (List.range ops.size).find? (fun k => listed.getD k false && dstOf ops k == some s) with
          | none => rfl
          | some k =>
            have hp := List.find?_some hf
            simp only [Bool.and_eq_true] at hp
            have : k ≠ i := fun e => by rw [e, hun] at hp; exact absurd hp.1 (by simp)
            simp [this]
      · by_cases e : k = i
        · subst e
          have : o' = o := by rw [ho] at hk; exact (Option.some.inj hk).symm
          subst this
          have hlj := hdep j hj
          by_cases ej : j = k
          · rw [ej]; exact hgi
          · rw [hgo j ej]; exact hlj
        · have h2 := J.closed k o' hk (by rw [← hgo k e]; exact hl) j hj
          by_cases ej : j = i
          · rw [ej]; exact hgi
          · rw [hgo j ej]; exact h2
    have hc' : ((List.range ops.size).filter (fun k => !(listed.setIfInBounds i true).getD k false)).length ≤ fuel := by
      have := count_lt (l := List.range ops.size) (x := i) (p := fun k => !listed.getD k false) (q := fun k => !(listed.setIfInBounds i true).getD k false) (List.mem_range.2 hin) (by simp [hun]) (by simp [Array.getD, hs, hin]) (fun k hk => by
        by_cases e : k = i
        · subst e; simp [hun]
        · rw [getD_set_ne false (Ne.symm e)] at hk; exact hk)
      omega
    have hgo := hop i o ho _ vs w hun (fun k o' hk hl => J.closed k o' hk hl) hdep J.inv
    unfold wpOp
    simp only [ho]
    rw [hw]
    by_cases hwt : wants yv o = true
    · rw [if_pos hwt] at hgo ⊢
      refine .inl (runs_wp hev ?_)
      have mono : ∀ {R R' : Value → World → Prop}, (∀ v w', R v w' → R' v w') → runs P o (rho ops a0 (depOn o) vs) w R → runs P o (rho ops a0 (depOn o) vs) w R' := by
        intro R R' hR h
        unfold runs at *
        split at h <;> first | exact hR _ _ h | exact Calls.mono h (fun e w'' ⟨v, he, hk⟩ => ⟨v, he, hR _ _ hk⟩) | exact h.elim
      exact mono (fun v w' h1 => any_ok5 fuel _ _ _ _ (by simp [hs]) hc' (hI v w' h1)) hgo
    · rw [if_neg hwt] at hgo ⊢
      exact any_ok5 fuel _ _ _ _ (by simp [hs]) hc' (hI undef w hgo)

theorem region_inv {id : Nat} {w : World} (I : (Nat → Bool) → (Nat → Value) → World → Prop) (yv : Nat → Option Bool) (D : List (Nat × Option Tmp)) (hm : P.follows .mixedOrders = true)
    (hok : regionOk ops a0.tmps.size = true) (hD : (List.range ops.size).map (fun i => (i, dstOf ops i)) = D)
    (hyv : ∀ (i : Nat) (o : Oper) (j : Nat) (b : Bool), ops[i]? = some o → o.guard = some (j, b) → ∀ L vs w, I L vs w → L j = true → boolOf (vs j) = yv j)
    (h0 : I (fun _ => false) (fun _ => undef) w.drew)
    (hop : ∀ i o, ops[i]? = some o → ∀ (L : Nat → Bool) (vs : Nat → Value) w, L i = false → (∀ k o', ops[k]? = some o' → L k = true → ∀ j, depOn o' j = true → L j = true) → (∀ j, depOn o j = true → L j = true) → I L vs w →
      if wants yv o = true then runs P o (rho ops a0 (depOn o) vs) w (fun v w' => I (fun k => if k = i then true else L k) (fun k => if k = i then v else vs k) w') else I (fun k => if k = i then true else L k) (fun k => if k = i then undef else vs k) w)
    (hend : ∀ (L : Nat → Bool) (vs : Nat → Value) w, (∀ i, i < ops.size → L i = true) → I L vs w → Q .normal (putAll vs D a0) w) : (Code.region id ops true).wp P Q a0 w :=
  wp_region_any hm (any_ok5 hok hyv hop (fun L vs w a hall hI h1 h2 h3 => by rw [frame_is hok hD h1 h2 h3]; exact hend L vs w hall hI) ops.size (Array.replicate ops.size false) (fun _ => undef) a0 _ (by simp)
    (Nat.le_trans (List.length_filter_le _ _) (by simp)) ⟨rfl, rfl, fun s => by
      unfold look
      have : (List.range ops.size).find? (fun i => (Array.replicate ops.size false).getD i false && dstOf ops i == some s) = none := by
        rw [List.find?_eq_none]
        intro k hk hc
        have hk := List.mem_range.1 hk
        simp [Array.getD, hk] at hc
      rw [this], fun i o ho hl => by
        have hi : i < ops.size := (Array.getElem?_eq_some_iff.1 ho).1
        simp [Array.getD, hi] at hl, by
      have : (fun i => (Array.replicate ops.size false).getD i false) = (fun _ : Nat => false) := by
        funext i
        by_cases hi : i < ops.size <;> simp [Array.getD, hi]
      rw [this]; exact h0⟩)
end

/-- A chain: each operation of it leans on the one ahead of it. -/
def chainOk (ops : Array Oper) (ch : List Nat) : Bool :=
  (List.range ch.length).all fun t => match ch[t]? with
    | none => false
    | some k => decide (k < ops.size) && (match ch[t + 1]? with | none => true | some k' => match ops[k']? with | some o' => depOn o' k | none => false) && (List.range ch.length).all (fun s => s == t || ch[s]? != some k)
abbrev Vat (Vl : List (World → Value → Prop)) (i : Nat) : World → Value → Prop := Vl.getD i (fun _ _ => True)
def StabS (ch : List Nat) (T : Nat → World → World → Prop) (i : Nat) (p : World → Value → Prop) : Prop :=
  (∀ w w' v, Below w.heap.size w w' → p w v → p w' v) ∧ ∀ k, k ∈ ch → k ≠ i → ∀ w w' v, T k w w' → p w v → p w' v
def StabSAll (ch : List Nat) (T : Nat → World → World → Prop) : Nat → List (World → Value → Prop) → Prop
  | _, [] => True
  | i, p :: l => StabS ch T i p ∧ StabSAll ch T (i + 1) l
theorem StabS.const (ch : List Nat) (T : Nat → World → World → Prop) (i : Nat) (p : Value → Prop) : StabS ch T i (fun _ v => p v) := ⟨fun _ _ _ _ h => h, fun _ _ _ _ _ _ _ h => h⟩
theorem StabSAll.at_ {ch : List Nat} {T : Nat → World → World → Prop} : ∀ (l : List (World → Value → Prop)) (k i : Nat), StabSAll ch T k l → StabS ch T (k + i) (Vat l i)
  | [], k, i, _ => by
    have : Vat [] i = fun _ _ => True := by simp [Vat]
    rw [this]; exact StabS.const _ _ _ _
  | x :: l, k, 0, h => h.1
  | x :: l, k, i + 1, h => by
    have := StabSAll.at_ l (k + 1) i h.2
    rw [show k + 1 + i = k + (i + 1) by omega] at this
    unfold Vat at this ⊢
    rw [List.getD_cons_succ]; exact this
section
variable (P : Program) (ops : Array Oper) (a0 : Act) (yv : Nat → Option Bool) (C : World → Prop) (ch : List Nat) (S : Nat → List Value → World → Prop) (T : Nat → World → World → Prop) (Vl : List (World → Value → Prop))
/-- What is owed for one operation: of the chain (number t of it), or not. -/
def HopS (i : Nat) (o : Oper) : Prop :=
  match ch.idxOf? i with
  | some t => ∀ (vs : Nat → Value) w, C w → S t ((ch.take t).map vs) w → (∀ j, depOn o j = true → Vat Vl j w (vs j)) →
      if wants yv o = true then runs P o (rho ops a0 (depOn o) vs) w (fun v w' => C w' ∧ T i w w' ∧ Vat Vl i w' v ∧ S (t + 1) ((ch.take t).map vs ++ [v]) w') else Vat Vl i w undef ∧ S (t + 1) ((ch.take t).map vs ++ [undef]) w
  | none => ∀ (vs : Nat → Value) w t, C w → (∀ (s k : Nat) (o' : Oper), s < t → ch[s]? = some k → ops[k]? = some o' → depOn o' i = false) → (∀ (s k : Nat), ch[s]? = some k → depOn o k = true → s < t) → S t ((ch.take t).map vs) w → (∀ j, depOn o j = true → Vat Vl j w (vs j)) →
      if wants yv o = true then runs P o (rho ops a0 (depOn o) vs) w (fun v w' => Below w.heap.size w w' ∧ Vat Vl i w' v) else Vat Vl i w undef
def HopSAll : Nat → List Oper → Prop
  | _, [] => True
  | i, o :: l => HopS P ops a0 yv C ch S T Vl i o ∧ HopSAll (i + 1) l
end
theorem HopSAll.at_ {P : Program} {ops : Array Oper} {a0 : Act} {yv : Nat → Option Bool} {C : World → Prop} {ch : List Nat} {S : Nat → List Value → World → Prop} {T : Nat → World → World → Prop} {Vl : List (World → Value → Prop)} : ∀ (l : List Oper) (k i : Nat) (o : Oper), HopSAll P ops a0 yv C ch S T Vl k l → l[i]? = some o → HopS P ops a0 yv C ch S T Vl (k + i) o
  | [], k, i, o, _, h => by simp at h
  | x :: l, k, 0, o, h, ho => by
    obtain rfl : x = o := by simpa using ho
    exact h.1
  | x :: l, k, i + 1, o, h, ho => by
    have := HopSAll.at_ l (k + 1) i o h.2 (by simpa using ho)
    rw [show k + 1 + i = k + (i + 1) by omega] at this
    exact this
theorem chain_at {ops : Array Oper} {ch : List Nat} (h : chainOk ops ch = true) {t k : Nat} (hk : ch[t]? = some k) : k < ops.size ∧ (∀ k' o', ch[t + 1]? = some k' → ops[k']? = some o' → depOn o' k = true) ∧ ∀ s, ch[s]? = some k → s = t := by
  have ht : t < ch.length := (List.getElem?_eq_some_iff.1 hk).1
  have := range_all h ht
  rw [hk] at this
  simp only [Bool.and_eq_true, decide_eq_true_eq] at this
  obtain ⟨⟨h1, h2⟩, h3⟩ := this
  refine ⟨h1, fun k' o' hk' ho' => ?_, fun s hs => ?_⟩
  · rw [hk'] at h2
    simp only [ho'] at h2
    exact h2
  · have hsl : s < ch.length := (List.getElem?_eq_some_iff.1 hs).1
    have := range_all h3 hsl
    simp only [Bool.or_eq_true, beq_iff_eq, bne_iff_ne, ne_eq] at this
    rcases this with e | e
    · exact e
    · exact absurd hs e
theorem regionS {P : Program} {ops : Array Oper} {Q : Exit → Act → World → Prop} {a0 : Act} {id : Nat} {W : World} (Vl : List (World → Value → Prop)) (ch : List Nat) (S : Nat → List Value → World → Prop) (T : Nat → World → World → Prop) (C : World → Prop) (yv : Nat → Option Bool) (D : List (Nat × Option Tmp)) (G : List Nat)
    (hm : P.follows .mixedOrders = true) (hok : regionOk ops a0.tmps.size = true) (hD : (List.range ops.size).map (fun i => (i, dstOf ops i)) = D) (hG : (ops.all fun o => match o.guard with | none => true | some (j, _) => G.contains j) = true) (hch : chainOk ops ch = true)
    (h0 : C W.drew) (hS0 : S 0 [] W.drew) (hCb : ∀ w w', Below w.heap.size w w' → C w → C w') (hSb : ∀ t rs w w', Below w.heap.size w w' → S t rs w → S t rs w')
    (hyv : ∀ j ∈ G, ∀ w v, Vat Vl j w v → boolOf v = yv j)
    (hst : StabSAll ch T 0 Vl) (hop : HopSAll P ops a0 yv C ch S T Vl 0 ops.toList)
    (hend : ∀ (vs : Nat → Value) w, C w → S ch.length (ch.map vs) w → (∀ i, i < ops.size → Vat Vl i w (vs i)) → Q .normal (putAll vs D a0) w) : (Code.region id ops true).wp P Q a0 W := by
  have hs : ∀ i, StabS ch T i (Vat Vl i) := fun i => by have := StabSAll.at_ Vl 0 i hst; rwa [Nat.zero_add] at this
  let I : (Nat → Bool) → (Nat → Value) → World → Prop := fun L vs w => C w ∧ ∃ t, t ≤ ch.length ∧ (∀ (s k : Nat), ch[s]? = some k → L k = decide (s < t)) ∧ S t ((ch.take t).map vs) w ∧ ∀ i, L i = true → Vat Vl i w (vs i)
  refine region_inv I yv D hm hok hD ?_ ?_ ?_ ?_
  · intro i o j b ho hgd L vs w hI hL
    obtain ⟨_, t, _, _, _, hV⟩ := hI
    refine hyv j ?_ w _ (hV j hL)
    rw [Array.all_eq_true'] at hG
    have := hG o (Array.mem_of_getElem? ho)
    rw [hgd] at this
    exact List.contains_iff_mem.1 this
  · exact ⟨h0, 0, Nat.zero_le _, fun s k _ => by simp, hS0, fun i h => by cases h⟩
  · intro i o ho L vs w hLi hcl hdep hI
    obtain ⟨hC, t, ht, hL, hSt, hV⟩ := hI
    have H := HopSAll.at_ ops.toList 0 i o hop (by rw [Array.getElem?_toList]; exact ho)
    rw [Nat.zero_add] at H
    have hVd : ∀ j, depOn o j = true → Vat Vl j w (vs j) := fun j hj => hV j (hdep j hj)
    unfold HopS at H
    have hidx : ∀ t', ch.idxOf? i = some t' → ch[t']? = some i := by
      intro t' h'
      have := List.idxOf?_eq_some_iff.1 h'
      obtain ⟨h1, h2, _⟩ := this
      rw [List.getElem?_eq_getElem h1]; exact congrArg some (by simpa using h2)
    have hno : ch.idxOf? i = none → ∀ (s k : Nat), ch[s]? = some k → k ≠ i := by
      intro h' s k hk e
      subst e
      have := List.idxOf?_eq_none_iff.1 h'
      exact this (List.mem_of_getElem? hk)
    have hmap : ∀ (v : Value) (t' : Nat), (∀ (s k : Nat), s < t' → ch[s]? = some k → k ≠ i) → (ch.take t').map (fun k => if k = i then v else vs k) = (ch.take t').map vs := by
      intro v t' hne
      refine List.map_congr_left fun k hk => ?_
      obtain ⟨s, hs1⟩ := List.getElem?_of_mem hk
      rw [List.getElem?_take] at hs1
      split at hs1
      · rename_i hlt
        rw [if_neg (hne s k hlt hs1)]
      · cases hs1
    cases hix : ch.idxOf? i with
    | some t' =>
      rw [hix] at H
      have hci := hidx t' hix
      have F := chain_at hch hci
      have htt : t' = t := by
        have h1 := hL t' i hci
        rw [hLi] at h1
        have h2 : ¬ t' < t := by intro h; rw [decide_eq_true h] at h1; cases h1
        rcases Nat.lt_or_ge t t' with h | h
        · exfalso
          -- the one ahead of it in the chain has been carried out
          obtain ⟨p, hp⟩ : ∃ p, t' = p + 1 := ⟨t' - 1, by omega⟩
          subst hp
          have hpl : p < ch.length := by have := (List.getElem?_eq_some_iff.1 hci).1; omega
          have hpk := List.getElem?_eq_getElem hpl
          have hd := (chain_at hch hpk).2.1 i o hci ho
          have hl := hdep _ hd
          rw [hL p _ hpk] at hl
          have := of_decide_eq_true hl
          omega
        · omega
      subst htt
      have H1 := H vs w hC hSt hVd
      have hlast : (ch.take (t' + 1)) = ch.take t' ++ [i] := by
        rw [List.take_add_one, hci]; rfl
      have hne : ∀ (s k : Nat), s < t' → ch[s]? = some k → k ≠ i := by
        intro s k hs1 hk e
        subst e
        have := F.2.2 s hk
        omega
      have hLn : ∀ (s k : Nat), ch[s]? = some k → (if k = i then true else L k) = decide (s < t' + 1) := by
        intro s k hk
        by_cases e : k = i
        · subst e
          rw [if_pos rfl, F.2.2 s hk]; simp
        · rw [if_neg e, hL s k hk]
          have hst' : s ≠ t' := fun e2 => by subst e2; rw [hci] at hk; exact e (Option.some.inj hk).symm
          by_cases h : s < t'
          · rw [decide_eq_true h, decide_eq_true (by omega)]
          · rw [decide_eq_false h, decide_eq_false (by omega)]
      have hmapS : ∀ v : Value, (ch.take (t' + 1)).map (fun k => if k = i then v else vs k) = (ch.take t').map vs ++ [v] := by
        intro v
        rw [hlast, List.map_append, hmap v t' hne]
        simp
      have htl : t' + 1 ≤ ch.length := (List.getElem?_eq_some_iff.1 hci).1
      by_cases hw : wants yv o = true
      · rw [if_pos hw] at H1 ⊢
        unfold runs at H1 ⊢
        have fin : ∀ v w', (C w' ∧ T i w w' ∧ Vat Vl i w' v ∧ S (t' + 1) ((ch.take t').map vs ++ [v]) w') → I (fun k => if k = i then true else L k) (fun k => if k = i then v else vs k) w' := by
          rintro v w' ⟨k1, k2, k3, k4⟩
          refine ⟨k1, t' + 1, htl, hLn, by rw [hmapS]; exact k4, fun j hj => ?_⟩
          by_cases e : j = i
          · subst e; simpa using k3
          · simp only [e, if_false] at hj ⊢
            exact (hs j).2 i (List.mem_of_getElem? hci) (Ne.symm e) w w' _ k2 (hV j hj)
        split at H1 <;> first | exact fin _ _ H1 | exact Calls.mono H1 (fun e w'' ⟨v, he, hk⟩ => ⟨v, he, fin _ _ hk⟩) | exact H1.elim
      · rw [if_neg hw] at H1 ⊢
        refine ⟨hC, t' + 1, htl, hLn, by rw [hmapS]; exact H1.2, fun j hj => ?_⟩
        by_cases e : j = i
        · subst e; simpa using H1.1
        · simp only [e, if_false] at hj ⊢
          exact hV j hj
    | none =>
      rw [hix] at H
      have hn := hno hix
      have H1 := H vs w t hC (fun s k o' hs1 hk ho' => by
        cases hb : depOn o' i with
        | false => rfl
        | true =>
          have hlk : L k = true := by rw [hL s k hk]; exact decide_eq_true hs1
          have := hcl k o' ho' hlk i hb
          rw [hLi] at this; cases this) (fun s k hk hd => by
        have := hdep k hd
        rw [hL s k hk] at this
        exact of_decide_eq_true this) hSt hVd
      have hLn : ∀ (s k : Nat), ch[s]? = some k → (if k = i then true else L k) = decide (s < t) := fun s k hk => by rw [if_neg (hn s k hk)]; exact hL s k hk
      by_cases hw : wants yv o = true
      · rw [if_pos hw] at H1 ⊢
        unfold runs at H1 ⊢
        have fin : ∀ v w', (Below w.heap.size w w' ∧ Vat Vl i w' v) → I (fun k => if k = i then true else L k) (fun k => if k = i then v else vs k) w' := by
          rintro v w' ⟨k1, k2⟩
          refine ⟨hCb w w' k1 hC, t, ht, hLn, by rw [hmap v t (fun s k _ hk => hn s k hk)]; exact hSb _ _ _ _ k1 hSt, fun j hj => ?_⟩
          by_cases e : j = i
          · subst e; simpa using k2
          · simp only [e, if_false] at hj ⊢
            exact (hs j).1 w w' _ k1 (hV j hj)
        split at H1 <;> first | exact fin _ _ H1 | exact Calls.mono H1 (fun e w'' ⟨v, he, hk⟩ => ⟨v, he, fin _ _ hk⟩) | exact H1.elim
      · rw [if_neg hw] at H1 ⊢
        refine ⟨hC, t, ht, hLn, by rw [hmap undef t (fun s k _ hk => hn s k hk)]; exact hSt, fun j hj => ?_⟩
        by_cases e : j = i
        · subst e; simpa using H1
        · simp only [e, if_false] at hj ⊢
          exact hV j hj
  · intro L vs w hall hI
    obtain ⟨hC, t, ht, hL, hSt, hV⟩ := hI
    have htl : t = ch.length := by
      rcases Nat.lt_or_ge t ch.length with h | h
      · exfalso
        have hk := List.getElem?_eq_getElem h
        have h1 := hL t _ hk
        rw [hall _ (chain_at hch hk).1] at h1
        have := of_decide_eq_true h1.symm
        omega
      · omega
    subst htl
    rw [List.take_length] at hSt
    exact hend vs w hC hSt (fun i hi => hV i (hall i hi))
end Go.Proofs.YthimlgkegobaeaaDoor
