/- A region that draws its order, walked once: each operation by itself, from whatever world of a class, out of what the operations ahead of it have told. -/
import Derived.Test.YthimlgkegobaeaaDoorWWords
import Derived.Test.YthimlgkegobaeaaDoorWLast
import Derived.Test.YthimlgkegobaeaaDoorWMore
import Derived.Test.YthimlgkegobaeaaDoorWKept
import Derived.WalkKit
import Derived.Lib.Hide
import Derived.Laws.BitsAllLaws
import Derived.Deep.RegionHeld3
import Derived.Orders
namespace Go.Proofs.YthimlgkegobaeaaDoor
open Go.RowKit Go.Proofs.YthimlgkegobaeaaDoorW.PrintWords Go.Proofs.YthimlgkegobaeaaDoorW.PrintLast Go.Proofs.YthimlgkegobaeaaDoorW.PrintMore

/-! ### 1. The law -/
/-- Must j come ahead of o? -/
def depOn (o : Oper) (j : Nat) : Bool := o.after.any fun e => Region.binds .any e && e.on == j
def dstOf (ops : Array Oper) (i : Nat) : Option Tmp := (ops[i]?).bind (·.dst)
/-- What slot s holds when the operations in L have been carried out, operation i having told vs i. -/
def look (ops : Array Oper) (a0 : Act) (L : Nat → Bool) (vs : Nat → Value) (s : Nat) : Value :=
  match (List.range ops.size).find? (fun i => L i && dstOf ops i == some s) with
  | some i => vs i
  | none => a0.tmps.getD s undef
def rho (ops : Array Oper) (a0 : Act) (L : Nat → Bool) (vs : Nat → Value) : Operand → Value
  | .tmp s => look ops a0 L vs s
  | .const v => v
  | .global g => .pointer (some ⟨g, 0, none⟩)
  | .func f => .func (.func f) #[] #[]
def boolOf : Value → Option Bool
  | .bool b => some b
  | _ => none
/-- What the kernel is asked of a region: each operation leans on what stands ahead of it alone; places are written once; what is read is settled. -/
def regionOk (ops : Array Oper) (size : Nat) : Bool :=
  (List.range ops.size).all fun i => match ops[i]? with
    | none => false
    | some o =>
      (match o.dst with | none => true | some d => decide (d < size) && (List.range ops.size).all fun k => k == i || dstOf ops k != some d) &&
      (o.op.operands.all fun x => match x with
        | .tmp s => (List.range ops.size).all fun k => k == i || dstOf ops k != some s || depOn o k || (match ops[k]? with | some o' => depOn o' i | none => false)
        | _ => true) &&
      (match o.guard with | none => true | some (j, _) => depOn o j && (dstOf ops j).isSome) &&
      (o.after.all fun e => !Region.binds .any e || decide (e.on < i)) &&
      (match o.op with | .select .. => false | _ => true)
/-- An operation carried out under ρ from w: it tells a value and leaves a world. -/
def runs (P : Program) (o : Oper) (ρ : Operand → Value) (w : World) (R : Value → World → Prop) : Prop :=
  match (execOp ρ o).run P w with
  | .ok (.value v) w' => R v w'
  | .ok .skip w' => R undef w'
  | .ok (.enter f args) w' => Calls P f args w' fun e w'' => ∃ v, e = .returned v ∧ R v w''
  | _ => False
/-- Is it carried out at all? -/
def wants (yv : Nat → Option Bool) (o : Oper) : Bool :=
  match o.guard with
  | none => true
  | some (j, b) => yv j == some b

section
variable {P : Program} {ops : Array Oper} {Q : Exit → Act → World → Prop} {a0 : Act} {C : World → Prop} {Step : World → World → Prop} {V : Nat → World → Value → Prop} {yv : Nat → Option Bool}

theorem runs_wp {o : Oper} {a : Act} {w : World} {K : Act → World → Prop} {ρ : Operand → Value} (he : execOp a.eval o = execOp ρ o) (h : runs P o ρ w fun v w' => K (a.put o.dst v) w') : o.wp P a w K Q := by
  unfold Oper.wp
  rw [he]
  unfold runs at h
  generalize (execOp ρ o).run P w = r at *
  cases r with
  | ok n w' =>
    cases n with
    | value v => exact h
    | skip => exact h
    | enter f args => exact Calls.mono h (fun e w'' ⟨v, he, hk⟩ => by subst he; exact hk)
    | _ => exact h.elim
  | halt x w' => exact h.elim

theorem range_all {n : Nat} {p : Nat → Bool} (h : (List.range n).all p = true) {i : Nat} (hi : i < n) : p i = true := List.all_eq_true.1 h i (List.mem_range.2 hi)

structure Fact (ops : Array Oper) (size i : Nat) (o : Oper) : Prop where
  dst : ∀ d, o.dst = some d → d < size ∧ ∀ k, k < ops.size → k ≠ i → dstOf ops k ≠ some d
  reads : ∀ s, .tmp s ∈ o.op.operands → ∀ k, k < ops.size → k ≠ i → dstOf ops k = some s → depOn o k = true ∨ ∃ o', ops[k]? = some o' ∧ depOn o' i = true
  guard : ∀ j b, o.guard = some (j, b) → depOn o j = true ∧ (dstOf ops j).isSome = true
  back : ∀ j, depOn o j = true → j < i
  sel : ∀ cs b, o.op ≠ .select cs b
theorem fact_of {size i : Nat} {o : Oper} (h : regionOk ops size = true) (ho : ops[i]? = some o) : Fact ops size i o := by
  have hi : i < ops.size := (Array.getElem?_eq_some_iff.1 ho).1
  have h1 := range_all h hi
  simp only [ho, Bool.and_eq_true] at h1
  obtain ⟨⟨⟨⟨h1, h2⟩, h3⟩, h4⟩, h5⟩ := h1
  refine ⟨fun d hd => ?_, fun s hs k hk hne hdk => ?_, fun j b hg => ?_, fun j hj => ?_, fun cs b hc => ?_⟩
  · simp only [hd, Bool.and_eq_true, decide_eq_true_eq] at h1
    refine ⟨h1.1, fun k hk hne => ?_⟩
    have := range_all h1.2 hk
    simpa [hne] using this
  · have hx := (Array.all_eq_true_iff_forall_mem.1 h2) _ hs
    have := range_all hx hk
    simp only [hdk, Bool.or_eq_true, beq_iff_eq, hne, bne_self_eq_false, Bool.false_eq_true, or_false, false_or] at this
    rcases this with h | h
    · exact .inl h
    · right
      cases hok : ops[k]? with
      | none => rw [hok] at h; exact absurd h (by simp)
      | some o' => rw [hok] at h; exact ⟨o', rfl, h⟩
  · simpa [hg] using h3
  · unfold depOn at hj
    rw [Array.any_eq_true'] at hj
    obtain ⟨e, he, hb⟩ := hj
    have := (Array.all_eq_true_iff_forall_mem.1 h4) e he
    simp only [Bool.and_eq_true, beq_iff_eq] at hb
    obtain ⟨hb, rfl⟩ := hb
    simpa [hb] using this
  · simp [hc] at h5

/-- The state on the way. -/
structure Inv (ops : Array Oper) (a0 : Act) (C : World → Prop) (V : Nat → World → Value → Prop) (L : Nat → Bool) (vs : Nat → Value) (a : Act) (w : World) : Prop where
  cls : C w
  defers : a.defers = a0.defers
  size : a.tmps.size = a0.tmps.size
  slot : ∀ s, a.tmps.getD s undef = look ops a0 L vs s
  val : ∀ i, i < ops.size → L i = true → V i w (vs i)
  closed : ∀ i o, ops[i]? = some o → L i = true → ∀ j, depOn o j = true → L j = true

theorem find_unique {n i : Nat} {p : Nat → Bool} (hi : i < n) (hp : p i = true) (hu : ∀ k, k < n → p k = true → k = i) : (List.range n).find? p = some i := by
  cases h : (List.range n).find? p with
  | none => exact absurd hp (by simpa using List.find?_eq_none.1 h i (List.mem_range.2 hi))
  | some k =>
    have hk := List.mem_range.1 (List.mem_of_find?_eq_some h)
    rw [hu k hk (List.find?_some h)]
theorem find_congr {n : Nat} {p q : Nat → Bool} (h : ∀ k, k < n → p k = q k) : (List.range n).find? p = (List.range n).find? q := by
  have key : ∀ l : List Nat, (∀ k ∈ l, k < n) → l.find? p = l.find? q := by
    intro l
    induction l with
    | nil => intro _; rfl
    | cons x l ih =>
      intro hl
      rw [List.find?_cons, List.find?_cons, h x (hl x List.mem_cons_self), ih (fun k hk => hl k (List.mem_cons_of_mem _ hk))]
  exact key _ (fun k hk => List.mem_range.1 hk)

theorem count_lt {p q : Nat → Bool} : ∀ {l : List Nat} {x : Nat}, x ∈ l → p x = true → q x = false → (∀ k, q k = true → p k = true) → (l.filter q).length < (l.filter p).length
  | y :: l, x, hx, hp, hq, hqp => by
    have hle : ∀ m : List Nat, (m.filter q).length ≤ (m.filter p).length := by
      intro m
      induction m with
      | nil => simp
      | cons z m ih =>
        rw [List.filter_cons, List.filter_cons]
        by_cases h : q z = true
        · rw [if_pos h, if_pos (hqp z h)]; simp; exact ih
        · rw [if_neg h]
          split
          · simp; omega
          · exact ih
    rw [List.filter_cons, List.filter_cons]
    rcases List.mem_cons.1 hx with rfl | hx
    · rw [if_neg (by rw [hq]; simp), if_pos hp]
      have := hle l
      simp; omega
    · have ih := count_lt hx hp hq hqp
      by_cases h : q y = true
      · rw [if_pos h, if_pos (hqp y h)]; simp; exact ih
      · rw [if_neg h]
        split
        · simp; omega
        · exact ih
theorem getD_of_lt {l : Array Bool} {i : Nat} (h : i < l.size) (d d' : Bool) : l.getD i d = l.getD i d' := by simp [Array.getD, h]
theorem all_listed {size : Nat} (hok : regionOk ops size = true) {listed : Array Bool} (hs : listed.size = ops.size) (hr : Region.ready .any ops listed = []) : ∀ i, i < ops.size → listed.getD i false = true := by
  intro i
  induction i using Nat.strongRecOn with
  | _ i ih =>
    intro hi
    cases hb : listed.getD i false with
    | true => rfl
    | false =>
      exfalso
      have ho : ops[i]? = some ops[i] := Array.getElem?_eq_getElem hi
      have F := fact_of hok ho
      have hm : i ∈ Region.ready .any ops listed := mem_ready.2 ⟨by rw [getD_of_lt (by omega) true false]; exact hb, _, ho, fun e he hbd => ?_⟩
      · rw [hr] at hm; cases hm
      · have hd : depOn ops[i] e.on = true := by
          unfold depOn
          rw [Array.any_eq_true']
          exact ⟨e, he, by simp [hbd]⟩
        have hlt := F.back _ hd
        exact ih _ hlt (by omega)
theorem look_all {L : Nat → Bool} {vs : Nat → Value} (h : ∀ i, i < ops.size → L i = true) (s : Nat) : look ops a0 L vs s = look ops a0 (fun _ => true) vs s := by
  unfold look
  rw [find_congr (q := fun i => true && dstOf ops i == some s) (fun k hk => by rw [h k hk])]
theorem look_far {L : Nat → Bool} {vs : Nat → Value} {size s : Nat} (hok : regionOk ops size = true) (h : size ≤ s) : look ops a0 L vs s = a0.tmps.getD s undef := by
  unfold look
  have : (List.range ops.size).find? (fun i => L i && dstOf ops i == some s) = none := by
    rw [List.find?_eq_none]
    intro k hk
    have hk := List.mem_range.1 hk
    have F := fact_of hok (Array.getElem?_eq_getElem hk)
    intro hc
    simp only [Bool.and_eq_true, beq_iff_eq] at hc
    have h2 := hc.2
    unfold dstOf at h2
    rw [Array.getElem?_eq_getElem hk] at h2
    have hlt : s < size := (F.dst s h2).1
    omega
  rw [this]

variable (hok : regionOk ops a0.tmps.size = true)
  (hrefl : ∀ w, Step w w)
  (hstab : ∀ i w w' v, i < ops.size → Step w w' → V i w v → V i w' v)
  (hyv : ∀ (i : Nat) (o : Oper) (j : Nat) (b : Bool), ops[i]? = some o → o.guard = some (j, b) → ∀ w v, V j w v → boolOf v = yv j)
  (hop : ∀ i o, ops[i]? = some o → ∀ (vs : Nat → Value) w, C w → (∀ j, depOn o j = true → V j w (vs j)) →
    if wants yv o = true then runs P o (rho ops a0 (depOn o) vs) w (fun v w' => C w' ∧ Step w w' ∧ V i w' v) else V i w undef)
  (hend : ∀ (vs : Nat → Value) w a, C w → (∀ i, i < ops.size → V i w (vs i)) → a.defers = a0.defers → a.tmps.size = a0.tmps.size → (∀ s, a.tmps.getD s undef = look ops a0 (fun _ => true) vs s) → Q .normal a w)
include hend in
theorem end_ok {listed : Array Bool} {vs : Nat → Value} {a : Act} {w : World} (hall : ∀ i, i < ops.size → listed.getD i false = true) (I : Inv ops a0 C V (fun i => listed.getD i false) vs a w) : Q .normal a w :=
  hend vs w a I.cls (fun i hi => I.val i hi (hall i hi)) I.defers I.size (fun s => by rw [I.slot s]; exact look_all hall s)
include hok hrefl hstab hyv hop hend in
theorem any_ok : ∀ (fuel : Nat) (listed : Array Bool) (vs : Nat → Value) (a : Act) (w : World), listed.size = ops.size → ((List.range ops.size).filter (fun i => !listed.getD i false)).length ≤ fuel →
    Inv ops a0 C V (fun i => listed.getD i false) vs a w → wpAny P .any ops Q fuel listed a w
  | 0, listed, vs, a, w, hs, hc, I => by
    have hall : ∀ i, i < ops.size → listed.getD i false = true := by
      intro i hi
      cases hb : listed.getD i false with
      | true => rfl
      | false =>
        exfalso
        have hm : i ∈ (List.range ops.size).filter (fun i => !listed.getD i false) := List.mem_filter.2 ⟨List.mem_range.2 hi, by simp [hb]⟩
        have := List.length_pos_of_mem hm
        omega
    refine ⟨?_, end_ok hend hall I⟩
    rw [List.eq_nil_iff_forall_not_mem]
    intro j hj
    obtain ⟨h1, o, ho, _⟩ := mem_ready.1 hj
    have hjn : j < ops.size := (Array.getElem?_eq_some_iff.1 ho).1
    rw [getD_of_lt (by omega) true false, hall j hjn] at h1
    cases h1
  | fuel + 1, listed, vs, a, w, hs, hc, I => by
    refine ⟨fun hr => end_ok hend (all_listed hok hs hr) I, fun i hi => ?_⟩
    obtain ⟨h1, o, ho, hdeps⟩ := mem_ready.1 hi
    have hin : i < ops.size := (Array.getElem?_eq_some_iff.1 ho).1
    have hun : listed.getD i false = false := by rw [getD_of_lt (by omega) false true]; exact h1
    have F := fact_of hok ho
    have hdep : ∀ j, depOn o j = true → listed.getD j false = true := by
      intro j hj
      unfold depOn at hj
      rw [Array.any_eq_true'] at hj
      obtain ⟨e, he, hb⟩ := hj
      simp only [Bool.and_eq_true, beq_iff_eq] at hb
      obtain ⟨hb, rfl⟩ := hb
      exact hdeps e he hb
    have hV : ∀ j, depOn o j = true → V j w (vs j) := fun j hj => I.val j (by have := F.back j hj; omega) (hdep j hj)
    -- what it reads
    have hlk : ∀ s, .tmp s ∈ o.op.operands → look ops a0 (fun i => listed.getD i false) vs s = look ops a0 (depOn o) vs s := by
      intro s hso
      unfold look
      rw [find_congr (q := fun k => depOn o k && dstOf ops k == some s)]
      intro k hk
      show (listed.getD k false && dstOf ops k == some s) = (depOn o k && dstOf ops k == some s)
      by_cases hd : dstOf ops k = some s
      · have e1 : listed.getD k false = depOn o k := by
          by_cases hki : k = i
          · subst hki
            rw [hun]
            cases hb : depOn o k with
            | false => rfl
            | true => exact absurd (F.back k hb) (by omega)
          · cases hb : depOn o k with
            | true => exact hdep k hb
            | false =>
              rcases F.reads s hso k hk hki hd with h | ⟨o', ho', h⟩
              · rw [hb] at h; cases h
              · cases hl : listed.getD k false with
                | false => rfl
                | true =>
                  have := I.closed k o' ho' hl i h
                  rw [hun] at this; cases this
        rw [e1]
      · have : (dstOf ops k == some s) = false := by simpa using hd
        rw [this, Bool.and_false, Bool.and_false]
    have hev : execOp a.eval o = execOp (rho ops a0 (depOn o) vs) o := by
      refine execOp_congr o F.sel fun x hx => ?_
      cases x with
      | tmp s =>
        show a.tmps.getD s undef = look ops a0 (depOn o) vs s
        rw [I.slot s]; exact hlk s hx
      | const v => rfl
      | global g => rfl
      | func f => rfl
    -- is it wanted
    have hw : Region.wanted o (yielded ops a.tmps) = wants yv o := by
      unfold Region.wanted wants
      cases hg : o.guard with
      | none => rfl
      | some jb =>
        obtain ⟨j, b⟩ := jb
        obtain ⟨hdj, hds⟩ := F.guard j b hg
        have hjn : j < ops.size := by have := F.back j hdj; omega
        obtain ⟨d, hd⟩ := Option.isSome_iff_exists.1 hds
        have Fj := fact_of hok (Array.getElem?_eq_getElem hjn)
        have hdj' : ops[j].dst = some d := by
          have := hd
          unfold dstOf at this
          rw [Array.getElem?_eq_getElem hjn] at this
          exact this
        have hsl : a.tmps.getD d undef = vs j := by
          rw [I.slot d]
          unfold look
          rw [find_unique (i := j) hjn (by simp only [hdep j hdj, hd, beq_self_eq_true, Bool.and_self]) (fun k hk hp => by
            by_cases e : k = j
            · exact e
            · simp only [Bool.and_eq_true, beq_iff_eq] at hp
              exact absurd hp.2 ((Fj.dst d hdj').2 k hk e))]
        have hdl : d < a.tmps.size := by rw [I.size]; exact (Fj.dst d hdj').1
        have hy : yielded ops a.tmps j = boolOf (vs j) := by
          unfold yielded
          have : (ops[j]?).bind (·.dst) = some d := hd
          rw [this]
          simp only [Option.bind_some]
          have e2 : a.tmps[d]? = some (vs j) := by
            rw [Array.getElem?_eq_getElem hdl]
            have : a.tmps.getD d undef = a.tmps[d] := by simp [Array.getD, hdl]
            rw [← this, hsl]
          rw [e2]
          cases vs j <;> rfl
        show (yielded ops a.tmps j == some b) = (yv j == some b)
        rw [hy, hyv i o j b ho hg w (vs j) (hV j hdj)]
    have hI : ∀ v w', C w' → Step w w' → V i w' v → Inv ops a0 C V (fun k => (listed.setIfInBounds i true).getD k false) (fun k => if k = i then v else vs k) (a.put o.dst v) w' := by
      intro v w' hC hS hVv
      have hgi : (listed.setIfInBounds i true).getD i false = true := by simp [Array.getD, hs, hin]
      have hgo : ∀ k, k ≠ i → (listed.setIfInBounds i true).getD k false = listed.getD k false := fun k hk => getD_set_ne false (Ne.symm hk)
      refine ⟨hC, by rw [← I.defers]; cases o.dst <;> rfl, by rw [← I.size]; cases o.dst <;> simp [Act.put], fun s => ?_, fun k hk hl => ?_, fun k o' hk hl j hj => ?_⟩
      · by_cases hd : o.dst = some s
        · have Fd := F.dst s hd
          have e1 : (a.put o.dst v).tmps.getD s undef = v := by
            rw [hd]; simp [Act.put, Array.getD, I.size, Fd.1]
          rw [e1]
          unfold look
          rw [find_unique (i := i) hin (by simp only [hgi, dstOf, ho, Option.bind_some, hd, beq_self_eq_true, Bool.and_self]) (fun k hk hp => by
            by_cases e : k = i
            · exact e
            · simp only [Bool.and_eq_true, beq_iff_eq] at hp
              exact absurd hp.2 (Fd.2 k hk e))]
          simp
        · have e1 : (a.put o.dst v).tmps.getD s undef = a.tmps.getD s undef := by
            cases hdo : o.dst with
            | none => rfl
            | some d =>
              have hne : d ≠ s := fun e => hd (by rw [hdo, e])
              have := Act.eval_put (a := a) (dst := some d) (v := v) (x := .tmp s) (fun d' hd' => by cases hd'; intro e; cases e; exact hne rfl)
              exact this
          rw [e1, I.slot s]
          unfold look
          rw [find_congr (p := fun k => (listed.setIfInBounds i true).getD k false && dstOf ops k == some s) (q := fun k => listed.getD k false && dstOf ops k == some s) (fun k hk => by
            by_cases e : k = i
            · subst e
              have : (dstOf ops k == some s) = false := by simp only [dstOf, ho, Option.bind_some, beq_eq_false_iff_ne]; exact hd
              rw [this, Bool.and_false, Bool.and_false]
            · rw [hgo k e])]
          cases hf : (List.range ops.size).find? (fun k => listed.getD k false && dstOf ops k == some s) with
          | none => rfl
          | some k =>
            have hp := List.find?_some hf
            simp only [Bool.and_eq_true] at hp
            have : k ≠ i := fun e => by rw [e, hun] at hp; exact absurd hp.1 (by simp)
            simp [this]
      · by_cases e : k = i
        · subst e; simpa using hVv
        · simp only [e, if_false]
          exact hstab k w w' _ hk hS (I.val k hk (by rw [← hgo k e]; exact hl))
      · by_cases e : k = i
        · subst e
          have : o' = o := by rw [ho] at hk; exact (Option.some.inj hk).symm
          subst this
          have hlj := hdep j hj
          by_cases ej : j = k
          · rw [ej]; exact hgi
          · rw [hgo j ej]; exact hlj
        · have h2 := I.closed k o' hk (by rw [← hgo k e]; exact hl) j hj
          by_cases ej : j = i
          · rw [ej]; exact hgi
          · rw [hgo j ej]; exact h2
    have hc' : ((List.range ops.size).filter (fun k => !(listed.setIfInBounds i true).getD k false)).length ≤ fuel := by
      have := count_lt (l := List.range ops.size) (x := i) (p := fun k => !listed.getD k false) (q := fun k => !(listed.setIfInBounds i true).getD k false) (List.mem_range.2 hin) (by simp [hun]) (by simp [Array.getD, hs, hin]) (fun k hk => by
        by_cases e : k = i
        · subst e; simp [hun]
        · rw [getD_set_ne false (Ne.symm e)] at hk; exact hk)
      omega
    have hgo := hop i o ho vs w I.cls hV
    unfold wpOp
    simp only [ho]
    rw [hw]
    by_cases hwt : wants yv o = true
    · rw [if_pos hwt] at hgo ⊢
      refine .inl (runs_wp hev ?_)
      have mono : ∀ {R R' : Value → World → Prop}, (∀ v w', R v w' → R' v w') → runs P o (rho ops a0 (depOn o) vs) w R → runs P o (rho ops a0 (depOn o) vs) w R' := by
        intro R R' hR h
        unfold runs at *
        split at h <;> first | exact hR _ _ h | exact Calls.mono h (fun e w'' ⟨v, he, hk⟩ => ⟨v, he, hR _ _ hk⟩) | exact h.elim
      exact mono (fun v w' ⟨h1, h2, h3⟩ => any_ok fuel _ _ _ _ (by simp [hs]) hc' (hI v w' h1 h2 h3)) hgo
    · rw [if_neg hwt] at hgo ⊢
      exact any_ok fuel _ _ _ _ (by simp [hs]) hc' (hI undef w I.cls (hrefl w) hgo)

/-- The frame behind the region: each operation's value in its place. -/
def putAll (vs : Nat → Value) : List (Nat × Option Tmp) → Act → Act
  | [], a => a
  | (i, d) :: l, a => putAll vs l (a.put d (vs i))
theorem put_defers (a : Act) (d : Option Tmp) (v : Value) : (a.put d v).defers = a.defers := by cases d <;> rfl
theorem put_size (a : Act) (d : Option Tmp) (v : Value) : (a.put d v).tmps.size = a.tmps.size := by cases d <;> simp [Act.put]
theorem putAll_defers (vs : Nat → Value) : ∀ (l : List (Nat × Option Tmp)) (a : Act), (putAll vs l a).defers = a.defers
  | [], _ => rfl
  | (i, d) :: l, a => by show (putAll vs l _).defers = _; rw [putAll_defers vs l, put_defers]
theorem putAll_size (vs : Nat → Value) : ∀ (l : List (Nat × Option Tmp)) (a : Act), (putAll vs l a).tmps.size = a.tmps.size
  | [], _ => rfl
  | (i, d) :: l, a => by show (putAll vs l _).tmps.size = _; rw [putAll_size vs l, put_size]
theorem put_getD (a : Act) (d : Option Tmp) (v : Value) (s : Nat) (h : d ≠ some s) : (a.put d v).tmps.getD s undef = a.tmps.getD s undef :=
  Act.eval_put (a := a) (dst := d) (v := v) (x := .tmp s) (fun d' hd' e => by subst hd'; cases e; exact h rfl)
theorem put_same (a : Act) (v : Value) (s : Nat) (h : s < a.tmps.size) : (a.put (some s) v).tmps.getD s undef = v := by simp [Act.put, Array.getD, h]
theorem putAll_getD (vs : Nat → Value) (s : Nat) : ∀ (l : List Nat) (a : Act), l.Nodup → (∀ i ∈ l, ∀ k ∈ l, dstOf ops i = some s → dstOf ops k = some s → k = i) → s < a.tmps.size →
    (putAll vs (l.map fun i => (i, dstOf ops i)) a).tmps.getD s undef = match l.find? (fun i => dstOf ops i == some s) with | some i => vs i | none => a.tmps.getD s undef
  | [], _, _, _, _ => rfl
  | i :: l, a, hn, hu, hs => by
    have hn' := List.nodup_cons.1 hn
    have hu' : ∀ j ∈ l, ∀ k ∈ l, dstOf ops j = some s → dstOf ops k = some s → k = j := fun j hj k hk => hu j (List.mem_cons_of_mem _ hj) k (List.mem_cons_of_mem _ hk)
    show (putAll vs (l.map fun i => (i, dstOf ops i)) (a.put (dstOf ops i) (vs i))).tmps.getD s undef = _
    rw [putAll_getD vs s l _ hn'.2 hu' (by rw [put_size]; exact hs), List.find?_cons]
    by_cases hd : dstOf ops i = some s
    · have hb : (dstOf ops i == some s) = true := by simpa using hd
      rw [hb]
      have : l.find? (fun i => dstOf ops i == some s) = none := by
        rw [List.find?_eq_none]
        intro k hk hc
        have := hu i List.mem_cons_self k (List.mem_cons_of_mem _ hk) hd (by simpa using hc)
        subst this
        exact hn'.1 hk
      rw [this, hd]
      exact put_same a (vs i) s hs
    · have hb : (dstOf ops i == some s) = false := by simpa using hd
      rw [hb]
      cases l.find? (fun i => dstOf ops i == some s) with
      | some k => rfl
      | none => exact put_getD a _ _ s hd
theorem frame_is {a : Act} {vs : Nat → Value} {D : List (Nat × Option Tmp)} (hok : regionOk ops a0.tmps.size = true) (hD : (List.range ops.size).map (fun i => (i, dstOf ops i)) = D)
    (hd : a.defers = a0.defers) (hs : a.tmps.size = a0.tmps.size) (hl : ∀ s, a.tmps.getD s undef = look ops a0 (fun _ => true) vs s) : a = putAll vs D a0 := by
  subst hD
  have e1 : a.tmps = (putAll vs ((List.range ops.size).map fun i => (i, dstOf ops i)) a0).tmps := by
    apply Array.ext
    · rw [putAll_size, hs]
    · intro s h1 h2
      have g1 : a.tmps.getD s undef = a.tmps[s] := by simp [Array.getD, h1]
      have g2 : (putAll vs ((List.range ops.size).map fun i => (i, dstOf ops i)) a0).tmps.getD s undef = (putAll vs ((List.range ops.size).map fun i => (i, dstOf ops i)) a0).tmps[s] := by simp [Array.getD, h2]
      rw [← g1, ← g2, hl s, putAll_getD vs s (List.range ops.size) a0 List.nodup_range (fun i hi k hk h3 h4 => by
        have hi := List.mem_range.1 hi
        have hk := List.mem_range.1 hk
        have F := fact_of hok (Array.getElem?_eq_getElem hi)
        by_cases e : k = i
        · exact e
        · have hdi : ops[i].dst = some s := by
            have := h3
            unfold dstOf at this
            rw [Array.getElem?_eq_getElem hi] at this
            exact this
          exact absurd h4 ((F.dst s hdi).2 k hk e)) (by omega)]
      unfold look
      simp only [Bool.true_and]
  cases a
  have e2 := putAll_defers vs ((List.range ops.size).map fun i => (i, dstOf ops i)) a0
  generalize putAll vs ((List.range ops.size).map fun i => (i, dstOf ops i)) a0 = b at *
  cases b
  simp only at e1 e2 hd
  subst e1
  rw [hd, ← e2]

/-- THE LAW. C: the worlds of the class; Step: from a world to a later one; V i: what operation i tells; yv: the outcome of a guard. -/
theorem region_all {id : Nat} {w : World} (V : Nat → World → Value → Prop) (yv : Nat → Option Bool) (C : World → Prop) (Step : World → World → Prop) (D : List (Nat × Option Tmp)) (hm : P.follows .mixedOrders = true)
    (hok : regionOk ops a0.tmps.size = true) (hD : (List.range ops.size).map (fun i => (i, dstOf ops i)) = D)
    (hrefl : ∀ w, Step w w) (hstab : ∀ i w w' v, i < ops.size → Step w w' → V i w v → V i w' v)
    (hyv : ∀ (i : Nat) (o : Oper) (j : Nat) (b : Bool), ops[i]? = some o → o.guard = some (j, b) → ∀ w v, V j w v → boolOf v = yv j)
    (h0 : C w.drew)
    (hop : ∀ i o, ops[i]? = some o → ∀ (vs : Nat → Value) w, C w → (∀ j, depOn o j = true → V j w (vs j)) →
      if wants yv o = true then runs P o (rho ops a0 (depOn o) vs) w (fun v w' => C w' ∧ Step w w' ∧ V i w' v) else V i w undef)
    (hend : ∀ (vs : Nat → Value) w, C w → (∀ i, i < ops.size → V i w (vs i)) → Q .normal (putAll vs D a0) w) : (Code.region id ops true).wp P Q a0 w :=
  wp_region_any hm (any_ok hok hrefl hstab hyv hop (fun vs w a hC hV h1 h2 h3 => by rw [frame_is hok hD h1 h2 h3]; exact hend vs w hC hV) ops.size (Array.replicate ops.size false) (fun _ => undef) a0 _ (by simp)
    (Nat.le_trans (List.length_filter_le _ _) (by simp)) ⟨h0, rfl, rfl, fun s => by
      unfold look
      have : (List.range ops.size).find? (fun i => (Array.replicate ops.size false).getD i false && dstOf ops i == some s) = none := by
        rw [List.find?_eq_none]
        intro k hk hc
        have hk := List.mem_range.1 hk
        simp [Array.getD, hk] at hc
      rw [this], fun i hi hl => by simp [Array.getD, hi] at hl, fun i o ho hl => by
        have hi : i < ops.size := (Array.getElem?_eq_some_iff.1 ho).1
        simp [Array.getD, hi] at hl⟩)
end

/-! ### 2. The same, operation by operation, over the worlds that have grown out of one -/
theorem runs_val {P : Program} {o : Oper} {ρ : Operand → Value} {w w' : World} {R : Value → World → Prop} {v : Value} (h : (execOp ρ o).run P w = .ok (.value v) w') (hR : R v w') : runs P o ρ w R := by
  unfold runs; rw [h]; exact hR
theorem runs_skip {P : Program} {o : Oper} {ρ : Operand → Value} {w w' : World} {R : Value → World → Prop} (h : (execOp ρ o).run P w = .ok .skip w') (hR : R undef w') : runs P o ρ w R := by
  unfold runs; rw [h]; exact hR
theorem runs_call {P : Program} {o : Oper} {ρ : Operand → Value} {w w' : World} {R : Value → World → Prop} {f : FuncId} {args : Array Value} (h : (execOp ρ o).run P w = .ok (.enter f args) w') (hR : Calls P f args w' fun e w'' => ∃ v, e = .returned v ∧ R v w'') : runs P o ρ w R := by
  unfold runs; rw [h]; exact hR
/-- A whole array, or a struct, read out of its block. -/
theorem runs_load {P : Program} {o : Oper} {ρ : Operand → Value} {w : World} {R : Value → World → Prop} (ty : TypeId) (x : Operand) (ho : o.op = .load ty x)
    (g : Nat) (hx : ρ x = .pointer (some ⟨g, 0, none⟩)) (t : TypeId) (cs : Array Value) (fr : Nat × Nat) (d : TypeDesc) (hg : w.heap[g]? = some (.cells cs t fr))
    (hu : P.underlying ty = some d) (hd : (match d with | .struct _ | .array _ _ => true | _ => false) = true) (hi : (P.info? ty).map (·.size) = some cs.size) (hR : R (.agg cs) w) : runs P o ρ w R := by
  unfold runs execOp
  simp only [ho, hx, Instr.loadAt, Instr.sureAddr, Sem.run_bind, Sem.run_pure, Result.andThen_ok, run_loadVar_row w g t ty cs fr d hg hu hd hi]
  exact hR

/-- What is asked of operation i. -/
def Hop (P : Program) (ops : Array Oper) (a0 : Act) (yv : Nat → Option Bool) (W : World) (V : Nat → World → Value → Prop) (i : Nat) (o : Oper) : Prop :=
  ∀ (vs : Nat → Value) (w : World), Below W.heap.size W w → (∀ j, depOn o j = true → V j w (vs j)) →
    if wants yv o = true then runs P o (rho ops a0 (depOn o) vs) w (fun v w' => Below w.heap.size w w' ∧ V i w' v) else V i w undef
def HopAll (P : Program) (ops : Array Oper) (a0 : Act) (yv : Nat → Option Bool) (W : World) (V : Nat → World → Value → Prop) : Nat → List Oper → Prop
  | _, [] => True
  | i, o :: l => Hop P ops a0 yv W V i o ∧ HopAll P ops a0 yv W V (i + 1) l
theorem HopAll.at_ {P : Program} {ops : Array Oper} {a0 : Act} {yv : Nat → Option Bool} {W : World} {V : Nat → World → Value → Prop} (l : List Oper) : ∀ (k i : Nat) (o : Oper), HopAll P ops a0 yv W V k l → l[i]? = some o → Hop P ops a0 yv W V (k + i) o := by
  induction l with
  | nil => intro k i o _ ho; simp at ho
  | cons o' l ih =>
    intro k i o h ho
    cases i with
    | zero =>
      have e : o' = o := by simpa using ho
      subst e
      exact h.1
    | succ i =>
      have h2 := ih (k + 1) i o h.2 (by simpa using ho)
      rw [show k + (i + 1) = k + 1 + i by omega]
      exact h2
/-- Stable: it stays so in later worlds. -/
def Stab (V : Nat → World → Value → Prop) (n : Nat) : Prop := ∀ i, i < n → ∀ (w w' : World) v, Below w.heap.size w w' → V i w v → V i w' v
def StabAll : List (World → Value → Prop) → Prop
  | [] => True
  | p :: l => (∀ (w w' : World) v, Below w.heap.size w w' → p w v → p w' v) ∧ StabAll l
theorem StabAll.at_ (l : List (World → Value → Prop)) : ∀ (i : Nat), StabAll l → ∀ (w w' : World) v, Below w.heap.size w w' → (l.getD i fun _ _ => True) w v → (l.getD i fun _ _ => True) w' v := by
  induction l with
  | nil => intro i _ w w' v _ h; simp
  | cons p l ih =>
    intro i hs w w' v hb h
    cases i with
    | zero => exact hs.1 w w' v hb h
    | succ i => exact ih i hs.2 w w' v hb h

theorem region_grown {P : Program} {ops : Array Oper} {Q : Exit → Act → World → Prop} {a0 : Act} {id : Nat} {W : World} (Vl : List (World → Value → Prop)) (yv : Nat → Option Bool) (D : List (Nat × Option Tmp)) (G : List Nat)
    (hm : P.follows .mixedOrders = true) (hok : regionOk ops a0.tmps.size = true) (hD : (List.range ops.size).map (fun i => (i, dstOf ops i)) = D)
    (hG : (List.range ops.size).all (fun i => match (ops[i]?).bind (·.guard) with | some (j, _) => G.contains j | none => true) = true)
    (hyv : ∀ j, j ∈ G → ∀ w v, (Vl.getD j fun _ _ => True) w v → boolOf v = yv j)
    (hstab : StabAll Vl)
    (hop : HopAll P ops a0 yv W (fun i => Vl.getD i fun _ _ => True) 0 ops.toList)
    (hend : ∀ (vs : Nat → Value) w, Below W.heap.size W w → (∀ i, i < ops.size → (Vl.getD i fun _ _ => True) w (vs i)) → Q .normal (putAll vs D a0) w) : (Code.region id ops true).wp P Q a0 W :=
  region_all (fun i => Vl.getD i fun _ _ => True) yv (fun w => Below W.heap.size W w) (fun w w' => Below w.heap.size w w') D hm hok hD (fun w => Below.refl _ _)
    (fun i w w' v _ hb h => StabAll.at_ _ i hstab w w' v hb h)
    (fun i o j b ho hg w v hv => by
      have hi : i < ops.size := (Array.getElem?_eq_some_iff.1 ho).1
      have := range_all hG hi
      simp only [ho, Option.bind_some, hg] at this
      exact hyv j (by simpa using this) w v hv)
    (below_drew1 (Below.refl _ _))
    (fun i o ho vs w hC hV => by
      have h := HopAll.at_ _ 0 i o hop (by simpa using ho) vs w hC hV
      rw [Nat.zero_add] at h
      by_cases hw : wants yv o = true
      · rw [if_pos hw] at h ⊢
        have mono : ∀ {R R' : Value → World → Prop}, (∀ v w', R v w' → R' v w') → runs P o (rho ops a0 (depOn o) vs) w R → runs P o (rho ops a0 (depOn o) vs) w R' := by
          intro R R' hR h
          unfold runs at *
          split at h <;> first | exact hR _ _ h | exact Calls.mono h (fun e w'' ⟨v, he, hk⟩ => ⟨v, he, hR _ _ hk⟩) | exact h.elim
        exact mono (fun v w' ⟨h1, h2⟩ => ⟨below_step hC h1, h1, h2⟩) h
      · rw [if_neg hw] at h ⊢; exact h)
    hend
end Go.Proofs.YthimlgkegobaeaaDoor
