/- A region that draws its order, in which a variable is made and filled: what an operation tells may hang on what the ones ahead of it told. -/
import Derived.Test.YthimlgkegobaeaaDoorO
import Derived.Laws.Tables
import Derived.Laws.CopyOwn
namespace Go.Proofs.YthimlgkegobaeaaDoor
open Go.RowKit Go.Proofs.YthimlgkegobaeaaDoorW.PrintWords Go.Proofs.YthimlgkegobaeaaDoorW.PrintLast Go.Proofs.YthimlgkegobaeaaDoorW.PrintMore
set_option linter.unusedVariables false

/-- The state on the way. -/
structure Inv2 (ops : Array Oper) (a0 : Act) (C : World → Prop) (V : Nat → World → Value → Prop) (X : Nat → World → (Nat → Value) → Prop) (L : Nat → Bool) (vs : Nat → Value) (a : Act) (w : World) : Prop where
  cls : C w
  defers : a.defers = a0.defers
  size : a.tmps.size = a0.tmps.size
  slot : ∀ s, a.tmps.getD s undef = look ops a0 L vs s
  val : ∀ i, i < ops.size → L i = true → V i w (vs i)
  ext : ∀ i, i < ops.size → L i = true → X i w vs
  closed : ∀ i o, ops[i]? = some o → L i = true → ∀ j, depOn o j = true → L j = true
section
variable {P : Program} {ops : Array Oper} {Q : Exit → Act → World → Prop} {a0 : Act} {C : World → Prop} {Step : World → World → Prop} {V : Nat → World → Value → Prop} {X : Nat → World → (Nat → Value) → Prop} {yv : Nat → Option Bool}
variable (hok : regionOk ops a0.tmps.size = true)
  (hrefl : ∀ w, Step w w)
  (hstab : ∀ i w w' v, i < ops.size → Step w w' → V i w v → V i w' v)
  (hstabX : ∀ i w w' vs, i < ops.size → Step w w' → X i w vs → X i w' vs)
  (hloc : ∀ i o w (vs vs' : Nat → Value), ops[i]? = some o → (∀ j, (j = i ∨ depOn o j = true) → vs j = vs' j) → X i w vs → X i w vs')
  (hyv : ∀ (i : Nat) (o : Oper) (j : Nat) (b : Bool), ops[i]? = some o → o.guard = some (j, b) → ∀ w v, V j w v → boolOf v = yv j)
  (hop : ∀ i o, ops[i]? = some o → ∀ (vs : Nat → Value) w, C w → (∀ j, depOn o j = true → V j w (vs j) ∧ X j w vs) →
    if wants yv o = true then runs P o (rho ops a0 (depOn o) vs) w (fun v w' => C w' ∧ Step w w' ∧ V i w' v ∧ X i w' (fun k => if k = i then v else vs k)) else V i w undef ∧ X i w (fun k => if k = i then undef else vs k))
  (hend : ∀ (vs : Nat → Value) w a, C w → (∀ i, i < ops.size → V i w (vs i)) → (∀ i, i < ops.size → X i w vs) → a.defers = a0.defers → a.tmps.size = a0.tmps.size → (∀ s, a.tmps.getD s undef = look ops a0 (fun _ => true) vs s) → Q .normal a w)
include hend in
theorem end_ok2 {listed : Array Bool} {vs : Nat → Value} {a : Act} {w : World} (hall : ∀ i, i < ops.size → listed.getD i false = true) (I : Inv2 ops a0 C V X (fun i => listed.getD i false) vs a w) : Q .normal a w :=
  hend vs w a I.cls (fun i hi => I.val i hi (hall i hi)) (fun i hi => I.ext i hi (hall i hi)) I.defers I.size (fun s => by rw [I.slot s]; exact look_all hall s)
include hok hrefl hstab hstabX hloc hyv hop hend in
theorem any_ok2 : ∀ (fuel : Nat) (listed : Array Bool) (vs : Nat → Value) (a : Act) (w : World), listed.size = ops.size → ((List.range ops.size).filter (fun i => !listed.getD i false)).length ≤ fuel →
    Inv2 ops a0 C V X (fun i => listed.getD i false) vs a w → wpAny P .any ops Q fuel listed a w
  | 0, listed, vs, a, w, hs, hc, I => by
    have hall : ∀ i, i < ops.size → listed.getD i false = true := by
      intro i hi
      cases hb : listed.getD i false with
      | true => rfl
      | false =>
        exfalso
        have hm : i ∈ (List.range ops.size).filter (fun i => !listed.getD i false) := List.mem_filter.2 ⟨List.mem_range.2 hi, by simp [hb]⟩
        have := List.length_pos_of_mem hm
        omega
    refine ⟨?_, end_ok2 hend hall I⟩
    rw [List.eq_nil_iff_forall_not_mem]
    intro j hj
    obtain ⟨h1, o, ho, _⟩ := mem_ready.1 hj
    have hjn : j < ops.size := (Array.getElem?_eq_some_iff.1 ho).1
    rw [getD_of_lt (by omega) true false, hall j hjn] at h1
    cases h1
  | fuel + 1, listed, vs, a, w, hs, hc, I => by
    refine ⟨fun hr => end_ok2 hend (all_listed hok hs hr) I, fun i hi => ?_⟩
    obtain ⟨h1, o, ho, hdeps⟩ := mem_ready.1 hi
    have hin : i < ops.size := (Array.getElem?_eq_some_iff.1 ho).1
    have hun : listed.getD i false = false := by rw [getD_of_lt (by omega) false true]; exact h1
    have F := fact_of hok ho
    have hdep : ∀ j, depOn o j = true → listed.getD j false = true := by
      intro j hj
      unfold depOn at hj
      rw [Array.any_eq_true'] at hj
      obtain ⟨e, he, hb⟩ := hj
      simp only [Bool.and_eq_true, beq_iff_eq] at hb
      obtain ⟨hb, rfl⟩ := hb
      exact hdeps e he hb
    have hV : ∀ j, depOn o j = true → V j w (vs j) := fun j hj => I.val j (by have := F.back j hj; omega) (hdep j hj)
    have hVX : ∀ j, depOn o j = true → V j w (vs j) ∧ X j w vs := fun j hj => ⟨hV j hj, I.ext j (by have := F.back j hj; omega) (hdep j hj)⟩
    -- what it reads
    have hlk : ∀ s, .tmp s ∈ o.op.operands → look ops a0 (fun i => listed.getD i false) vs s = look ops a0 (depOn o) vs s := by
      intro s hso
      unfold look
      rw [find_congr (q := fun k => depOn o k && dstOf ops k == some s)]
      intro k hk
      show (listed.getD k false && dstOf ops k == some s) = (depOn o k && dstOf ops k == some s)
      by_cases hd : dstOf ops k = some s
      · have e1 : listed.getD k false = depOn o k := by
          by_cases hki : k = i
          · subst hki
            rw [hun]
            cases hb : depOn o k with
            | false => rfl
            | true => exact absurd (F.back k hb) (by omega)
          · cases hb : depOn o k with
            | true => exact hdep k hb
            | false =>
              rcases F.reads s hso k hk hki hd with h | ⟨o', ho', h⟩
              · rw [hb] at h; cases h
              · cases hl : listed.getD k false with
                | false => rfl
                | true =>
                  have := I.closed k o' ho' hl i h
                  rw [hun] at this; cases this
        rw [e1]
      · have : (dstOf ops k == some s) = false := by simpa using hd
        rw [this, Bool.and_false, Bool.and_false]
    have hev : execOp a.eval o = execOp (rho ops a0 (depOn o) vs) o := by
      refine execOp_congr o F.sel fun x hx => ?_
      cases x with
      | tmp s =>
        show a.tmps.getD s undef = look ops a0 (depOn o) vs s
        rw [I.slot s]; exact hlk s hx
      | const v => rfl
      | global g => rfl
      | func f => rfl
    -- is it wanted
    have hw : Region.wanted o (yielded ops a.tmps) = wants yv o := by
      unfold Region.wanted wants
      cases hg : o.guard with
      | none => rfl
      | some jb =>
        obtain ⟨j, b⟩ := jb
        obtain ⟨hdj, hds⟩ := F.guard j b hg
        have hjn : j < ops.size := by have := F.back j hdj; omega
        obtain ⟨d, hd⟩ := Option.isSome_iff_exists.1 hds
        have Fj := fact_of hok (Array.getElem?_eq_getElem hjn)
        have hdj' : ops[j].dst = some d := by
          have := hd
          unfold dstOf at this
          rw [Array.getElem?_eq_getElem hjn] at this
          exact this
        have hsl : a.tmps.getD d undef = vs j := by
          rw [I.slot d]
          unfold look
          rw [find_unique (i := j) hjn (by simp only [hdep j hdj, hd, beq_self_eq_true, Bool.and_self]) (fun k hk hp => by
            by_cases e : k = j
            · exact e
            · simp only [Bool.and_eq_true, beq_iff_eq] at hp
              exact absurd hp.2 ((Fj.dst d hdj').2 k hk e))]
        have hdl : d < a.tmps.size := by rw [I.size]; exact (Fj.dst d hdj').1
        have hy : yielded ops a.tmps j = boolOf (vs j) := by
          unfold yielded
          have : (ops[j]?).bind (·.dst) = some d := hd
          rw [this]
          simp only [Option.bind_some]
          have e2 : a.tmps[d]? = some (vs j) := by
            rw [Array.getElem?_eq_getElem hdl]
            have : a.tmps.getD d undef = a.tmps[d] := by simp [Array.getD, hdl]
            rw [← this, hsl]
          rw [e2]
          cases vs j <;> rfl
        show (yielded ops a.tmps j == some b) = (yv j == some b)
        rw [hy, hyv i o j b ho hg w (vs j) (hV j hdj)]
    have hI : ∀ v w', C w' → Step w w' → V i w' v → X i w' (fun k => if k = i then v else vs k) → Inv2 ops a0 C V X (fun k => (listed.setIfInBounds i true).getD k false) (fun k => if k = i then v else vs k) (a.put o.dst v) w' := by
      intro v w' hC hS hVv hXv
      have hgi : (listed.setIfInBounds i true).getD i false = true := by simp [Array.getD, hs, hin]
      have hgo : ∀ k, k ≠ i → (listed.setIfInBounds i true).getD k false = listed.getD k false := fun k hk => getD_set_ne false (Ne.symm hk)
      refine ⟨hC, by rw [← I.defers]; cases o.dst <;> rfl, by rw [← I.size]; cases o.dst <;> simp [Act.put], fun s => ?_, fun k hk hl => ?_, fun k hk hl => ?_, fun k o' hk hl j hj => ?_⟩
      · by_cases hd : o.dst = some s
        · have Fd := F.dst s hd
          have e1 : (a.put o.dst v).tmps.getD s undef = v := by
            rw [hd]; simp [Act.put, Array.getD, I.size, Fd.1]
          rw [e1]
          unfold look
          rw [find_unique (i := i) hin (by simp only [hgi, dstOf, ho, Option.bind_some, hd, beq_self_eq_true, Bool.and_self]) (fun k hk hp => by
            by_cases e : k = i
            · exact e
            · simp only [Bool.and_eq_true, beq_iff_eq] at hp
              exact absurd hp.2 (Fd.2 k hk e))]
          simp
        · have e1 : (a.put o.dst v).tmps.getD s undef = a.tmps.getD s undef := by
            cases hdo : o.dst with
            | none => rfl
            | some d =>
              have hne : d ≠ s := fun e => hd (by rw [hdo, e])
              have := Act.eval_put (a := a) (dst := some d) (v := v) (x := .tmp s) (fun d' hd' => by cases hd'; intro e; cases e; exact hne rfl)
              exact this
          rw [e1, I.slot s]
          unfold look
          rw [find_congr (p := fun k => (listed.setIfInBounds i true).getD k false && dstOf ops k == some s) (q := fun k => listed.getD k false && dstOf ops k == some s) (fun k hk => by
            by_cases e : k = i
            · subst e
              have : (dstOf ops k == some s) = false := by simp only [dstOf, ho, Option.bind_some, beq_eq_false_iff_ne]; exact hd
              rw [this, Bool.and_false, Bool.and_false]
            · rw [hgo k e])]
          cases hf : (List.range ops.size).find? (fun k => listed.getD k false && dstOf ops k == some s) with
          | none => rfl
          | some k =>
            have hp := List.find?_some hf
            simp only [Bool.and_eq_true] at hp
            have : k ≠ i := fun e => by rw [e, hun] at hp; exact absurd hp.1 (by simp)
            simp [this]
      · by_cases e : k = i
        · subst e; simpa using hVv
        · simp only [e, if_false]
          exact hstab k w w' _ hk hS (I.val k hk (by rw [← hgo k e]; exact hl))
      · by_cases e : k = i
        · subst e; exact hXv
        · have hlk2 : listed.getD k false = true := by rw [← hgo k e]; exact hl
          refine hloc k ops[k] w' vs _ (Array.getElem?_eq_getElem hk) (fun j hj => ?_) (hstabX k w w' vs hk hS (I.ext k hk hlk2))
          have hji : j ≠ i := by
            rcases hj with rfl | hj
            · exact e
            · intro e2
              have := I.closed k ops[k] (Array.getElem?_eq_getElem hk) hlk2 j hj
              rw [e2, hun] at this; cases this
          simp [hji]
      · by_cases e : k = i
        · subst e
          have : o' = o := by rw [ho] at hk; exact (Option.some.inj hk).symm
          subst this
          have hlj := hdep j hj
          by_cases ej : j = k
          · rw [ej]; exact hgi
          · rw [hgo j ej]; exact hlj
        · have h2 := I.closed k o' hk (by rw [← hgo k e]; exact hl) j hj
          by_cases ej : j = i
          · rw [ej]; exact hgi
          · rw [hgo j ej]; exact h2
    have hc' : ((List.range ops.size).filter (fun k => !(listed.setIfInBounds i true).getD k false)).length ≤ fuel := by
      have := count_lt (l := List.range ops.size) (x := i) (p := fun k => !listed.getD k false) (q := fun k => !(listed.setIfInBounds i true).getD k false) (List.mem_range.2 hin) (by simp [hun]) (by simp [Array.getD, hs, hin]) (fun k hk => by
        by_cases e : k = i
        · subst e; simp [hun]
        · rw [getD_set_ne false (Ne.symm e)] at hk; exact hk)
      omega
    have hgo := hop i o ho vs w I.cls hVX
    unfold wpOp
    simp only [ho]
    rw [hw]
    by_cases hwt : wants yv o = true
    · rw [if_pos hwt] at hgo ⊢
      refine .inl (runs_wp hev ?_)
      have mono : ∀ {R R' : Value → World → Prop}, (∀ v w', R v w' → R' v w') → runs P o (rho ops a0 (depOn o) vs) w R → runs P o (rho ops a0 (depOn o) vs) w R' := by
        intro R R' hR h
        unfold runs at *
        split at h <;> first | exact hR _ _ h | exact Calls.mono h (fun e w'' ⟨v, he, hk⟩ => ⟨v, he, hR _ _ hk⟩) | exact h.elim
      exact mono (fun v w' ⟨h1, h2, h3, h4⟩ => any_ok2 fuel _ _ _ _ (by simp [hs]) hc' (hI v w' h1 h2 h3 h4)) hgo
    · rw [if_neg hwt] at hgo ⊢
      exact any_ok2 fuel _ _ _ _ (by simp [hs]) hc' (hI undef w I.cls (hrefl w) hgo.1 hgo.2)

theorem region_all2 {id : Nat} {w : World} (V : Nat → World → Value → Prop) (X : Nat → World → (Nat → Value) → Prop) (yv : Nat → Option Bool) (C : World → Prop) (Step : World → World → Prop) (D : List (Nat × Option Tmp)) (hm : P.follows .mixedOrders = true)
    (hok : regionOk ops a0.tmps.size = true) (hD : (List.range ops.size).map (fun i => (i, dstOf ops i)) = D)
    (hrefl : ∀ w, Step w w) (hstab : ∀ i w w' v, i < ops.size → Step w w' → V i w v → V i w' v)
    (hstabX : ∀ i w w' vs, i < ops.size → Step w w' → X i w vs → X i w' vs)
    (hloc : ∀ i o w (vs vs' : Nat → Value), ops[i]? = some o → (∀ j, (j = i ∨ depOn o j = true) → vs j = vs' j) → X i w vs → X i w vs')
    (hyv : ∀ (i : Nat) (o : Oper) (j : Nat) (b : Bool), ops[i]? = some o → o.guard = some (j, b) → ∀ w v, V j w v → boolOf v = yv j)
    (h0 : C w.drew)
    (hop : ∀ i o, ops[i]? = some o → ∀ (vs : Nat → Value) w, C w → (∀ j, depOn o j = true → V j w (vs j) ∧ X j w vs) →
      if wants yv o = true then runs P o (rho ops a0 (depOn o) vs) w (fun v w' => C w' ∧ Step w w' ∧ V i w' v ∧ X i w' (fun k => if k = i then v else vs k)) else V i w undef ∧ X i w (fun k => if k = i then undef else vs k))
    (hend : ∀ (vs : Nat → Value) w, C w → (∀ i, i < ops.size → V i w (vs i)) → (∀ i, i < ops.size → X i w vs) → Q .normal (putAll vs D a0) w) : (Code.region id ops true).wp P Q a0 w :=
  wp_region_any hm (any_ok2 hok hrefl hstab hstabX hloc hyv hop (fun vs w a hC hV hX h1 h2 h3 => by rw [frame_is hok hD h1 h2 h3]; exact hend vs w hC hV hX) ops.size (Array.replicate ops.size false) (fun _ => undef) a0 _ (by simp)
    (Nat.le_trans (List.length_filter_le _ _) (by simp)) ⟨h0, rfl, rfl, fun s => by
      unfold look
      have : (List.range ops.size).find? (fun i => (Array.replicate ops.size false).getD i false && dstOf ops i == some s) = none := by
        rw [List.find?_eq_none]
        intro k hk hc
        have hk := List.mem_range.1 hk
        simp [Array.getD, hk] at hc
      rw [this], fun i hi hl => by simp [Array.getD, hi] at hl, fun i hi hl => by simp [Array.getD, hi] at hl, fun i o ho hl => by
        have hi : i < ops.size := (Array.getElem?_eq_some_iff.1 ho).1
        simp [Array.getD, hi] at hl⟩)
end

/-! ### A variable that is made, and filled by a row -/
/-- The step of a world in which blocks from B on that read Z may have come to read F. -/
def Fills (B : Nat) (Z F : Obj) (w w' : World) : Prop := Below 0 w w' ∧ ∀ k, k < w.heap.size → w'.heap[k]? = w.heap[k]? ∨ (B ≤ k ∧ w.heap[k]? = some Z ∧ w'.heap[k]? = some F)
theorem Fills.of_below {B : Nat} {Z F : Obj} {w w' : World} (h : Below w.heap.size w w') : Fills B Z F w w' := ⟨h.mono (Nat.zero_le _), fun k hk => .inl (h.block k hk)⟩
/-- What holds of a block that reads neither Z nor F .. -/
theorem Fills.same {B : Nat} {Z F o : Obj} {w w' : World} (h : Fills B Z F w w') {k : Nat} (hk : w.heap[k]? = some o) (hne : o ≠ Z) : w'.heap[k]? = some o := by
  rcases h.2 k (blk_lt hk) with e | ⟨_, e, _⟩
  · rw [e]; exact hk
  · rw [hk] at e; exact absurd (Option.some.inj e) hne
theorem runs_store_row {P : Program} {o : Oper} {ρ : Operand → Value} {w : World} {R : Value → World → Prop} (ty : TypeId) (x y : Operand) (ho : o.op = .store ty x y)
    (g : Nat) (cs : Array Value) (hx : ρ x = .pointer (some ⟨g, 0, none⟩)) (hy : ρ y = .agg cs) (t : TypeId) (cur : Array Value) (hg : w.heap[g]? = some (.cells cur t (0, 0))) (hz : (P.info? ty).map (·.size) = some cs.size) (hs : cur.size = cs.size) (h1 : cs.all (fun v => v.oneCell') = true)
    (hR : R undef (w.setRow g cs)) : runs P o ρ w R := by
  unfold runs execOp
  simp only [ho, hx, hy, Instr.storeAt, Instr.sureAddr, Sem.run_bind, Sem.run_pure, Result.andThen_ok, run_storeVar_row w g t ty cur cs hg hz hs h1]
  exact hR

def StabF (B : Nat) (Z F : Obj) : List (World → Value → Prop) → Prop
  | [] => True
  | p :: l => (∀ (w w' : World) v, Fills B Z F w w' → p w v → p w' v) ∧ StabF B Z F l
theorem StabF.at_ {B : Nat} {Z F : Obj} (l : List (World → Value → Prop)) : ∀ (i : Nat), StabF B Z F l → ∀ (w w' : World) v, Fills B Z F w w' → (l.getD i fun _ _ => True) w v → (l.getD i fun _ _ => True) w' v := by
  induction l with
  | nil => intro i _ w w' v _ h; simp
  | cons p l ih =>
    intro i hs w w' v hb h
    cases i with
    | zero => exact hs.1 w w' v hb h
    | succ i => exact ih i hs.2 w w' v hb h
/-- A variable of which nothing is known but that it has been made, and may have been filled. -/
def Made (B : Nat) (Z F : Obj) (w : World) (v : Value) : Prop := ∃ g, v = .pointer (some ⟨g, 0, none⟩) ∧ B ≤ g ∧ (w.heap[g]? = some Z ∨ w.heap[g]? = some F)
theorem Made.stab {B : Nat} {Z F : Obj} (w w' : World) (v : Value) (hf : Fills B Z F w w') (h : Made B Z F w v) : Made B Z F w' v := by
  obtain ⟨g, e, hg, h⟩ := h
  refine ⟨g, e, hg, ?_⟩
  rcases h with h | h
  · rcases hf.2 g (blk_lt h) with e | ⟨_, _, e⟩
    · exact .inl (e.trans h)
    · exact .inr e
  · rcases hf.2 g (blk_lt h) with e | ⟨_, _, e⟩
    · exact .inr (e.trans h)
    · exact .inr e
/-- What is asked of operation i: but for the store. -/
def HopF (P : Program) (ops : Array Oper) (a0 : Act) (yv : Nat → Option Bool) (W : World) (ia is : Nat) (Z F : Array Value) (T : TypeId) (V : Nat → World → Value → Prop) (i : Nat) (o : Oper) : Prop :=
  ∀ (vs : Nat → Value) (w : World), Below W.heap.size W w → (∀ j, depOn o j = true → V j w (vs j)) →
    if i = is then ∀ g cur, vs ia = .pointer (some ⟨g, 0, none⟩) → w.heap[g]? = some (.cells cur T (0, 0)) → cur.size = F.size → runs P o (rho ops a0 (depOn o) vs) w (fun _ w' => w' = w.setRow g F)
    else if wants yv o = true then runs P o (rho ops a0 (depOn o) vs) w (fun v w' => Below w.heap.size w w' ∧ V i w' v) else V i w undef
def HopFAll (P : Program) (ops : Array Oper) (a0 : Act) (yv : Nat → Option Bool) (W : World) (ia is : Nat) (Z F : Array Value) (T : TypeId) (V : Nat → World → Value → Prop) : Nat → List Oper → Prop
  | _, [] => True
  | i, o :: l => HopF P ops a0 yv W ia is Z F T V i o ∧ HopFAll P ops a0 yv W ia is Z F T V (i + 1) l
theorem HopFAll.at_ {P : Program} {ops : Array Oper} {a0 : Act} {yv : Nat → Option Bool} {W : World} {ia is : Nat} {Z F : Array Value} {T : TypeId} {V : Nat → World → Value → Prop} (l : List Oper) : ∀ (k i : Nat) (o : Oper), HopFAll P ops a0 yv W ia is Z F T V k l → l[i]? = some o → HopF P ops a0 yv W ia is Z F T V (k + i) o := by
  induction l with
  | nil => intro k i o _ ho; simp at ho
  | cons o' l ih =>
    intro k i o h ho
    cases i with
    | zero =>
      have e : o' = o := by simpa using ho
      subst e
      exact h.1
    | succ i =>
      have h2 := ih (k + 1) i o h.2 (by simpa using ho)
      rw [show k + (i + 1) = k + 1 + i by omega]
      exact h2
theorem region_fill {P : Program} {ops : Array Oper} {Q : Exit → Act → World → Prop} {a0 : Act} {id : Nat} {W : World} (ia is : Nat) (Z F : Array Value) (T : TypeId) (Vl : List (World → Value → Prop)) (yv : Nat → Option Bool) (D : List (Nat × Option Tmp)) (G : List Nat)
    (hm : P.follows .mixedOrders = true) (hok : regionOk ops a0.tmps.size = true) (hD : (List.range ops.size).map (fun i => (i, dstOf ops i)) = D)
    (hG : (List.range ops.size).all (fun i => match (ops[i]?).bind (·.guard) with | some (j, _) => G.contains j | none => true) = true)
    (hdep : (match ops[is]? with | some o => depOn o ia && o.guard.isNone | none => false) = true) (hsz : Z.size = F.size)
    (hVa : (Vl.getD ia fun _ _ => True) = Made W.heap.size (.cells Z T (0, 0)) (.cells F T (0, 0))) (hVs : (Vl.getD is fun _ _ => True) = fun _ _ => True)
    (hyv : ∀ j, j ∈ G → ∀ w v, (Vl.getD j fun _ _ => True) w v → boolOf v = yv j)
    (hstab : StabF W.heap.size (.cells Z T (0, 0)) (.cells F T (0, 0)) Vl)
    (hop : HopFAll P ops a0 yv W ia is Z F T (fun i => Vl.getD i fun _ _ => True) 0 ops.toList)
    (hend : ∀ (vs : Nat → Value) w g, Below W.heap.size W w → (∀ i, i < ops.size → (Vl.getD i fun _ _ => True) w (vs i)) → vs ia = .pointer (some ⟨g, 0, none⟩) → W.heap.size ≤ g → w.heap[g]? = some (.cells F T (0, 0)) → Q .normal (putAll vs D a0) w) : (Code.region id ops true).wp P Q a0 W := by
  obtain ⟨os, hos⟩ : ∃ os, ops[is]? = some os := by
    cases h : ops[is]? with
    | none => rw [h] at hdep; cases hdep
    | some o => exact ⟨o, rfl⟩
  rw [hos] at hdep
  simp only [Bool.and_eq_true] at hdep
  have his : is < ops.size := (Array.getElem?_eq_some_iff.1 hos).1
  refine region_all2 (fun i => Vl.getD i fun _ _ => True) (fun i w vs => i = is → ∃ g, vs ia = .pointer (some ⟨g, 0, none⟩) ∧ W.heap.size ≤ g ∧ w.heap[g]? = some (.cells F T (0, 0))) yv (fun w => Below W.heap.size W w) (Fills W.heap.size (.cells Z T (0, 0)) (.cells F T (0, 0))) D hm hok hD
    (fun w => Fills.of_below (Below.refl _ _)) (fun i w w' v _ hb h => StabF.at_ _ i hstab w w' v hb h) ?_ ?_ ?_ (below_drew1 (Below.refl _ _)) ?_ ?_
  · intro i w w' vs _ hf hx hi
    obtain ⟨g, e, hg, h⟩ := hx hi
    refine ⟨g, e, hg, ?_⟩
    rcases hf.2 g (blk_lt h) with e2 | ⟨_, _, e2⟩
    · exact e2.trans h
    · exact e2
  · intro i o w vs vs' ho heq hx hi
    obtain ⟨g, e, hg, h⟩ := hx hi
    subst hi
    obtain rfl : o = os := Option.some.inj (ho.symm.trans hos)
    exact ⟨g, by rw [← heq ia (.inr hdep.1)]; exact e, hg, h⟩
  · intro i o j b ho hg w v hv
    have hi : i < ops.size := (Array.getElem?_eq_some_iff.1 ho).1
    have := range_all hG hi
    simp only [ho, Option.bind_some, hg] at this
    exact hyv j (by simpa using this) w v hv
  · intro i o ho vs w hC hV
    have h := HopFAll.at_ _ 0 i o hop (by simpa using ho) vs w hC (fun j hj => (hV j hj).1)
    rw [Nat.zero_add] at h
    have mono : ∀ {R R' : Value → World → Prop}, (∀ v w', R v w' → R' v w') → runs P o (rho ops a0 (depOn o) vs) w R → runs P o (rho ops a0 (depOn o) vs) w R' := by
      intro R R' hR h
      unfold runs at *
      split at h <;> first | exact hR _ _ h | exact Calls.mono h (fun e w'' ⟨v, he, hk⟩ => ⟨v, he, hR _ _ hk⟩) | exact h.elim
    by_cases hi : i = is
    · subst hi
      obtain rfl : o = os := Option.some.inj (ho.symm.trans hos)
      have hw : wants yv o = true := by
        unfold wants
        cases hg : o.guard with
        | none => rfl
        | some jb => rw [hg] at hdep; exact absurd hdep.2 (by simp)
      rw [if_pos rfl] at h
      rw [if_pos hw]
      have hVia := (hV ia hdep.1).1
      rw [hVa] at hVia
      obtain ⟨g, e, hg, hcur⟩ := hVia
      have hlt : g < w.heap.size := by rcases hcur with h | h <;> exact blk_lt h
      obtain ⟨cur, hcu, hcs⟩ : ∃ cur, w.heap[g]? = some (.cells cur T (0, 0)) ∧ cur.size = F.size := by
        rcases hcur with h | h
        · exact ⟨Z, h, hsz⟩
        · exact ⟨F, h, rfl⟩
      have hset : (w.setRow g F).heap[g]? = some (.cells F T (0, 0)) := setRow_heap _ _ _ _ _ _ hcu
      have hia : ia ≠ i := by
        have F0 := (fact_of hok ho).back ia hdep.1
        omega
      refine mono (fun v w' e2 => ?_) (h g cur e hcu hcs)
      subst e2
      refine ⟨below_setRow hC hg _, ⟨⟨rfl, rfl, rfl, by simp [World.setRow], fun k hk => by omega⟩, fun k hk => ?_⟩, by rw [hVs]; trivial, fun _ => ⟨g, by simp [hia, e], hg, hset⟩⟩
      by_cases hkg : k = g
      · subst hkg
        rcases hcur with h | h
        · exact .inr ⟨hg, h, hset⟩
        · exact .inl (hset.trans h.symm)
      · exact .inl (setRow_other _ _ _ _ hkg)
    · rw [if_neg hi] at h
      by_cases hw : wants yv o = true
      · rw [if_pos hw] at h ⊢
        exact mono (fun v w' ⟨h1, h2⟩ => ⟨below_step hC h1, Fills.of_below h1, h2, fun e => absurd e hi⟩) h
      · rw [if_neg hw] at h ⊢
        exact ⟨h, fun e => absurd e hi⟩
  · intro vs w hC hV hX
    obtain ⟨g, e, hg, h⟩ := hX is his rfl
    exact hend vs w g hC hV e hg h
end Go.Proofs.YthimlgkegobaeaaDoor
