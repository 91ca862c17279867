/- The parts of this proof, one behind the other: contracts of the functions, plain laws, the walk. -/
import Derived.Test.YtkjjmmgngdpppaaZaa
import Derived.Test.YtkjjmmgngdpppaaWWords
import Derived.Test.YtkjjmmgngdpppaaWLast
import Derived.Test.YtkjjmmgngdpppaaWMore
import Derived.Test.YtkjjmmgngdpppaaWKept
import Derived.WalkKit
import Derived.Lib.Hide
import Derived.Laws.BitsAllLaws
import Derived.Deep.RegionHeld3
import Derived.Orders
import Derived.Test.YtkjjmmgngdpppaaProg
import Derived.Below
import Derived.Deep.Draws
import Derived.Deep.AppendLies
import Derived.Maps.AppendAt
import Derived.OwnWalk
import Derived.Laws.BytesArg
import Derived.Laws.MakeOwn
import Derived.Laws.OwnMore
import Derived.Deep.OwnRows
import Derived.Tactics
import Derived.Lib.ConvBytes
import Derived.Laws.Slices
import Derived.KernelRfl
import Derived.RowKit3
import Derived.Deep.LoopGhost
import Derived.Deep.QuietTactic
import Derived.BigQuiet
import Derived.WideLaws
import Derived.Deep.DeepCutAuto
import Derived.Deep.CutBlock
import Derived.Laws.Rows
import Derived.Lib.AppendStr
import Derived.ArgAppend
import Derived.Laws.IdiomCopy
import Derived.OrdersHeld
import Derived.Laws.BitsLemmas
import Derived.RowKit
import Derived.Test.YtkjjmmgngdpppaaWTab
import Derived.Test.YtkjjmmgngdpppaaWFour
import Derived.Test.YtkjjmmgngdpppaaWQPut
import Derived.Test.YtkjjmmgngdpppaaWApart
import Derived.Test.YtkjjmmgngdpppaaWArr
import Derived.Test.YtkjjmmgngdpppaaWZeros
import Derived.Test.YtkjjmmgngdpppaaWFoot
import Derived.Test.YtkjjmmgngdpppaaWShare
import Derived.Test.YtkjjmmgngdpppaaWN
import Derived.Test.YtkjjmmgngdpppaaWFootNe
import Derived.Test.YtkjjmmgngdpppaaWAt
import Derived.Test.YtkjjmmgngdpppaaWEqStruct
import Derived.Test.YtkjjmmgngdpppaaWRepsOne
import Derived.Test.YtkjjmmgngdpppaaWInv
import Derived.Test.YtkjjmmgngdpppaaWInvWords
import Derived.Test.YtkjjmmgngdpppaaWGuard
import Derived.Test.YtkjjmmgngdpppaaWNEv
import Derived.OpenShut
namespace Go.Proofs.Ytkjjmmgngdpppaa
open Go.RowKit Go.Proofs.YtkjjmmgngdpppaaW.PrintWords Go.Proofs.YtkjjmmgngdpppaaW.PrintLast Go.Proofs.YtkjjmmgngdpppaaW.PrintMore

/-! ### 1. The law -/
/-- Must j come ahead of o? -/
def depOn (o : Oper) (j : Nat) : Bool := o.after.any fun e => Region.binds .any e && e.on == j
def dstOf (ops : Array Oper) (i : Nat) : Option Tmp := (ops[i]?).bind (·.dst)
/-- What slot s holds when the operations in L have been carried out, operation i having told vs i. -/
def look (ops : Array Oper) (a0 : Act) (L : Nat → Bool) (vs : Nat → Value) (s : Nat) : Value :=
  match (List.range ops.size).find? (fun i => L i && dstOf ops i == some s) with
  | some i => vs i
  | none => a0.tmps.getD s undef
def rho (ops : Array Oper) (a0 : Act) (L : Nat → Bool) (vs : Nat → Value) : Operand → Value
  | .tmp s => look ops a0 L vs s
  | .const v => v
  | .global g => .pointer (some ⟨g, 0, none⟩)
  | .func f => .func (.func f) #[] #[]
def boolOf : Value → Option Bool
  | .bool b => some b
  | _ => none
/-- What the kernel is asked of a region: each operation leans on what stands ahead of it alone; places are written once; what is read is settled. -/
def regionOk (ops : Array Oper) (size : Nat) : Bool :=
  (List.range ops.size).all fun i => match ops[i]? with
    | none => false
    | some o =>
      (match o.dst with | none => true | some d => decide (d < size) && (List.range ops.size).all fun k => k == i || dstOf ops k != some d) &&
      (o.op.operands.all fun x => match x with
        | .tmp s => (List.range ops.size).all fun k => k == i || dstOf ops k != some s || depOn o k || (match ops[k]? with | some o' => depOn o' i | none => false)
        | _ => true) &&
      (match o.guard with | none => true | some (j, _) => depOn o j && (dstOf ops j).isSome) &&
      (o.after.all fun e => !Region.binds .any e || decide (e.on < i)) &&
      (match o.op with | .select .. => false | _ => true)
/-- An operation carried out under ρ from w: it tells a value and leaves a world. -/
def runs (P : Program) (o : Oper) (ρ : Operand → Value) (w : World) (R : Value → World → Prop) : Prop :=
  match (execOp ρ o).run P w with
  | .ok (.value v) w' => R v w'
  | .ok .skip w' => R undef w'
  | .ok (.enter f args) w' => Calls P f args w' fun e w'' => ∃ v, e = .returned v ∧ R v w''
  | _ => False
/-- Is it carried out at all? -/
def wants (yv : Nat → Option Bool) (o : Oper) : Bool :=
  match o.guard with
  | none => true
  | some (j, b) => yv j == some b

section
variable {P : Program} {ops : Array Oper} {Q : Exit → Act → World → Prop} {a0 : Act} {C : World → Prop} {Step : World → World → Prop} {V : Nat → World → Value → Prop} {yv : Nat → Option Bool}

theorem runs_wp {o : Oper} {a : Act} {w : World} {K : Act → World → Prop} {ρ : Operand → Value} (he : execOp a.eval o = execOp ρ o) (h : runs P o ρ w fun v w' => K (a.put o.dst v) w') : o.wp P a w K Q := by
  unfold Oper.wp
  rw [he]
  unfold runs at h
  generalize (execOp ρ o).run P w = r at *
  cases r with
  | ok n w' =>
    cases n with
    | value v => exact h
    | skip => exact h
    | enter f args => exact Calls.mono h (fun e w'' ⟨v, he, hk⟩ => by subst he; exact hk)
    | _ => exact h.elim
  | halt x w' => exact h.elim

theorem range_all {n : Nat} {p : Nat → Bool} (h : (List.range n).all p = true) {i : Nat} (hi : i < n) : p i = true := List.all_eq_true.1 h i (List.mem_range.2 hi)

structure Fact (ops : Array Oper) (size i : Nat) (o : Oper) : Prop where
  dst : ∀ d, o.dst = some d → d < size ∧ ∀ k, k < ops.size → k ≠ i → dstOf ops k ≠ some d
  reads : ∀ s, .tmp s ∈ o.op.operands → ∀ k, k < ops.size → k ≠ i → dstOf ops k = some s → depOn o k = true ∨ ∃ o', ops[k]? = some o' ∧ depOn o' i = true
  guard : ∀ j b, o.guard = some (j, b) → depOn o j = true ∧ (dstOf ops j).isSome = true
  back : ∀ j, depOn o j = true → j < i
  sel : ∀ cs b, o.op ≠ .select cs b
theorem fact_of {size i : Nat} {o : Oper} (h : regionOk ops size = true) (ho : ops[i]? = some o) : Fact ops size i o := by
  have hi : i < ops.size := (Array.getElem?_eq_some_iff.1 ho).1
  have h1 := range_all h hi
  simp only [ho, Bool.and_eq_true] at h1
  obtain ⟨⟨⟨⟨h1, h2⟩, h3⟩, h4⟩, h5⟩ := h1
  refine ⟨fun d hd => ?_, fun s hs k hk hne hdk => ?_, fun j b hg => ?_, fun j hj => ?_, fun cs b hc => ?_⟩
  · simp only [hd, Bool.and_eq_true, decide_eq_true_eq] at h1
    refine ⟨h1.1, fun k hk hne => ?_⟩
    have := range_all h1.2 hk
    simpa [hne] using this
  · have hx := (Array.all_eq_true_iff_forall_mem.1 h2) _ hs
    have := range_all hx hk
    simp only [hdk, Bool.or_eq_true, beq_iff_eq, hne, bne_self_eq_false, Bool.false_eq_true, or_false, false_or] at this
    rcases this with h | h
    · exact .inl h
    · right
      cases hok : ops[k]? with
      | none => rw [hok] at h; exact absurd h (by simp)
      | some o' => rw [hok] at h; exact ⟨o', rfl, h⟩
  · simpa [hg] using h3
  · unfold depOn at hj
    rw [Array.any_eq_true'] at hj
    obtain ⟨e, he, hb⟩ := hj
    have := (Array.all_eq_true_iff_forall_mem.1 h4) e he
    simp only [Bool.and_eq_true, beq_iff_eq] at hb
    obtain ⟨hb, rfl⟩ := hb
    simpa [hb] using this
  · simp [hc] at h5

/-- The state on the way. -/
structure Inv (ops : Array Oper) (a0 : Act) (C : World → Prop) (V : Nat → World → Value → Prop) (L : Nat → Bool) (vs : Nat → Value) (a : Act) (w : World) : Prop where
  cls : C w
  defers : a.defers = a0.defers
  size : a.tmps.size = a0.tmps.size
  slot : ∀ s, a.tmps.getD s undef = look ops a0 L vs s
  val : ∀ i, i < ops.size → L i = true → V i w (vs i)
  closed : ∀ i o, ops[i]? = some o → L i = true → ∀ j, depOn o j = true → L j = true

theorem find_unique {n i : Nat} {p : Nat → Bool} (hi : i < n) (hp : p i = true) (hu : ∀ k, k < n → p k = true → k = i) : (List.range n).find? p = some i := by
  cases h : (List.range n).find? p with
  | none => exact absurd hp (by simpa using List.find?_eq_none.1 h i (List.mem_range.2 hi))
  | some k =>
    have hk := List.mem_range.1 (List.mem_of_find?_eq_some h)
    rw [hu k hk (List.find?_some h)]
theorem find_congr {n : Nat} {p q : Nat → Bool} (h : ∀ k, k < n → p k = q k) : (List.range n).find? p = (List.range n).find? q := by
  have key : ∀ l : List Nat, (∀ k ∈ l, k < n) → l.find? p = l.find? q := by
    intro l
    induction l with
    | nil => intro _; rfl
    | cons x l ih =>
      intro hl
      rw [List.find?_cons, List.find?_cons, h x (hl x List.mem_cons_self), ih (fun k hk => hl k (List.mem_cons_of_mem _ hk))]
  exact key _ (fun k hk => List.mem_range.1 hk)

theorem count_lt {p q : Nat → Bool} : ∀ {l : List Nat} {x : Nat}, x ∈ l → p x = true → q x = false → (∀ k, q k = true → p k = true) → (l.filter q).length < (l.filter p).length
  | y :: l, x, hx, hp, hq, hqp => by
    have hle : ∀ m : List Nat, (m.filter q).length ≤ (m.filter p).length := by
      intro m
      induction m with
      | nil => simp
      | cons z m ih =>
        rw [List.filter_cons, List.filter_cons]
        by_cases h : q z = true
        · rw [if_pos h, if_pos (hqp z h)]; simp; exact ih
        · rw [if_neg h]
          split
          · simp; omega
          · exact ih
    rw [List.filter_cons, List.filter_cons]
    rcases List.mem_cons.1 hx with rfl | hx
    · rw [if_neg (by rw [hq]; simp), if_pos hp]
      have := hle l
      simp; omega
    · have ih := count_lt hx hp hq hqp
      by_cases h : q y = true
      · rw [if_pos h, if_pos (hqp y h)]; simp; exact ih
      · rw [if_neg h]
        split
        · simp; omega
        · exact ih
theorem getD_of_lt {l : Array Bool} {i : Nat} (h : i < l.size) (d d' : Bool) : l.getD i d = l.getD i d' := by simp [Array.getD, h]
theorem all_listed {size : Nat} (hok : regionOk ops size = true) {listed : Array Bool} (hs : listed.size = ops.size) (hr : Region.ready .any ops listed = []) : ∀ i, i < ops.size → listed.getD i false = true := by
  intro i
  induction i using Nat.strongRecOn with
  | _ i ih =>
    intro hi
    cases hb : listed.getD i false with
    | true => rfl
    | false =>
      exfalso
      have ho : ops[i]? = some ops[i] := Array.getElem?_eq_getElem hi
      have F := fact_of hok ho
      have hm : i ∈ Region.ready .any ops listed := mem_ready.2 ⟨by rw [getD_of_lt (by omega) true false]; exact hb, _, ho, fun e he hbd => ?_⟩
      · rw [hr] at hm; cases hm
      · have hd : depOn ops[i] e.on = true := by
          unfold depOn
          rw [Array.any_eq_true']
          exact ⟨e, he, by simp [hbd]⟩
        have hlt := F.back _ hd
        exact ih _ hlt (by omega)
theorem look_all {L : Nat → Bool} {vs : Nat → Value} (h : ∀ i, i < ops.size → L i = true) (s : Nat) : look ops a0 L vs s = look ops a0 (fun _ => true) vs s := by
  unfold look
  rw [find_congr (q := fun i => true && dstOf ops i == some s) (fun k hk => by rw [h k hk])]
theorem look_far {L : Nat → Bool} {vs : Nat → Value} {size s : Nat} (hok : regionOk ops size = true) (h : size ≤ s) : look ops a0 L vs s = a0.tmps.getD s undef := by
  unfold look
  have : (List.range ops.size).find? (fun i => L i && dstOf ops i == some s) = none := by
    rw [List.find?_eq_none]
    intro k hk
    have hk := List.mem_range.1 hk
    have F := fact_of hok (Array.getElem?_eq_getElem hk)
    intro hc
    simp only [Bool.and_eq_true, beq_iff_eq] at hc
    have h2 := hc.2
    unfold dstOf at h2
    rw [Array.getElem?_eq_getElem hk] at h2
    have hlt : s < size := (F.dst s h2).1
    omega
  rw [this]

variable (hok : regionOk ops a0.tmps.size = true)
  (hrefl : ∀ w, Step w w)
  (hstab : ∀ i w w' v, i < ops.size → Step w w' → V i w v → V i w' v)
  (hyv : ∀ (i : Nat) (o : Oper) (j : Nat) (b : Bool), ops[i]? = some o → o.guard = some (j, b) → ∀ w v, V j w v → boolOf v = yv j)
  (hop : ∀ i o, ops[i]? = some o → ∀ (vs : Nat → Value) w, C w → (∀ j, depOn o j = true → V j w (vs j)) →
    if wants yv o = true then runs P o (rho ops a0 (depOn o) vs) w (fun v w' => C w' ∧ Step w w' ∧ V i w' v) else V i w undef)
  (hend : ∀ (vs : Nat → Value) w a, C w → (∀ i, i < ops.size → V i w (vs i)) → a.defers = a0.defers → a.tmps.size = a0.tmps.size → (∀ s, a.tmps.getD s undef = look ops a0 (fun _ => true) vs s) → Q .normal a w)
include hend in
theorem end_ok {listed : Array Bool} {vs : Nat → Value} {a : Act} {w : World} (hall : ∀ i, i < ops.size → listed.getD i false = true) (I : Inv ops a0 C V (fun i => listed.getD i false) vs a w) : Q .normal a w :=
  hend vs w a I.cls (fun i hi => I.val i hi (hall i hi)) I.defers I.size (fun s => by rw [I.slot s]; exact look_all hall s)
include hok hrefl hstab hyv hop hend in
theorem any_ok : ∀ (fuel : Nat) (listed : Array Bool) (vs : Nat → Value) (a : Act) (w : World), listed.size = ops.size → ((List.range ops.size).filter (fun i => !listed.getD i false)).length ≤ fuel →
    Inv ops a0 C V (fun i => listed.getD i false) vs a w → wpAny P .any ops Q fuel listed a w
  | 0, listed, vs, a, w, hs, hc, I => by
    have hall : ∀ i, i < ops.size → listed.getD i false = true := by
      intro i hi
      cases hb : listed.getD i false with
      | true => rfl
      | false =>
        exfalso
        have hm : i ∈ (List.range ops.size).filter (fun i => !listed.getD i false) := List.mem_filter.2 ⟨List.mem_range.2 hi, by simp [hb]⟩
        have := List.length_pos_of_mem hm
        omega
    refine ⟨?_, end_ok hend hall I⟩
    rw [List.eq_nil_iff_forall_not_mem]
    intro j hj
    obtain ⟨h1, o, ho, _⟩ := mem_ready.1 hj
    have hjn : j < ops.size := (Array.getElem?_eq_some_iff.1 ho).1
    rw [getD_of_lt (by omega) true false, hall j hjn] at h1
    cases h1
  | fuel + 1, listed, vs, a, w, hs, hc, I => by
    refine ⟨fun hr => end_ok hend (all_listed hok hs hr) I, fun i hi => ?_⟩
    obtain ⟨h1, o, ho, hdeps⟩ := mem_ready.1 hi
    have hin : i < ops.size := (Array.getElem?_eq_some_iff.1 ho).1
    have hun : listed.getD i false = false := by rw [getD_of_lt (by omega) false true]; exact h1
    have F := fact_of hok ho
    have hdep : ∀ j, depOn o j = true → listed.getD j false = true := by
      intro j hj
      unfold depOn at hj
      rw [Array.any_eq_true'] at hj
      obtain ⟨e, he, hb⟩ := hj
      simp only [Bool.and_eq_true, beq_iff_eq] at hb
      obtain ⟨hb, rfl⟩ := hb
      exact hdeps e he hb
    have hV : ∀ j, depOn o j = true → V j w (vs j) := fun j hj => I.val j (by have := F.back j hj; omega) (hdep j hj)
    -- what it reads
    have hlk : ∀ s, .tmp s ∈ o.op.operands → look ops a0 (fun i => listed.getD i false) vs s = look ops a0 (depOn o) vs s := by
      intro s hso
      unfold look
      rw [find_congr (q := fun k => depOn o k && dstOf ops k == some s)]
      intro k hk
      show (listed.getD k false && dstOf ops k == some s) = (depOn o k && dstOf ops k == some s)
      by_cases hd : dstOf ops k = some s
      · have e1 : listed.getD k false = depOn o k := by
          by_cases hki : k = i
          · subst hki
            rw [hun]
            cases hb : depOn o k with
            | false => rfl
            | true => exact absurd (F.back k hb) (by omega)
          · cases hb : depOn o k with
            | true => exact hdep k hb
            | false =>
              rcases F.reads s hso k hk hki hd with h | ⟨o', ho', h⟩
              · rw [hb] at h; cases h
              · cases hl : listed.getD k false with
                | false => rfl
                | true =>
                  have := I.closed k o' ho' hl i h
                  rw [hun] at this; cases this
        rw [e1]
      · have : (dstOf ops k == some s) = false := by simpa using hd
        rw [this, Bool.and_false, Bool.and_false]
    have hev : execOp a.eval o = execOp (rho ops a0 (depOn o) vs) o := by
      refine execOp_congr o F.sel fun x hx => ?_
      cases x with
      | tmp s =>
        show a.tmps.getD s undef = look ops a0 (depOn o) vs s
        rw [I.slot s]; exact hlk s hx
      | const v => rfl
      | global g => rfl
      | func f => rfl
    -- is it wanted
    have hw : Region.wanted o (yielded ops a.tmps) = wants yv o := by
      unfold Region.wanted wants
      cases hg : o.guard with
      | none => rfl
      | some jb =>
        obtain ⟨j, b⟩ := jb
        obtain ⟨hdj, hds⟩ := F.guard j b hg
        have hjn : j < ops.size := by have := F.back j hdj; omega
        obtain ⟨d, hd⟩ := Option.isSome_iff_exists.1 hds
        have Fj := fact_of hok (Array.getElem?_eq_getElem hjn)
        have hdj' : ops[j].dst = some d := by
          have := hd
          unfold dstOf at this
          rw [Array.getElem?_eq_getElem hjn] at this
          exact this
        have hsl : a.tmps.getD d undef = vs j := by
          rw [I.slot d]
          unfold look
          rw [find_unique (i := j) hjn (by simp only [hdep j hdj, hd, beq_self_eq_true, Bool.and_self]) (fun k hk hp => by
            by_cases e : k = j
            · exact e
            · simp only [Bool.and_eq_true, beq_iff_eq] at hp
              exact absurd hp.2 ((Fj.dst d hdj').2 k hk e))]
        have hdl : d < a.tmps.size := by rw [I.size]; exact (Fj.dst d hdj').1
        have hy : yielded ops a.tmps j = boolOf (vs j) := by
          unfold yielded
          have : (ops[j]?).bind (·.dst) = some d := hd
          rw [this]
          simp only [Option.bind_some]
          have e2 : a.tmps[d]? = some (vs j) := by
            rw [Array.getElem?_eq_getElem hdl]
            have : a.tmps.getD d undef = a.tmps[d] := by simp [Array.getD, hdl]
            rw [← this, hsl]
          rw [e2]
          cases vs j <;> rfl
        show (yielded ops a.tmps j == some b) = (yv j == some b)
        rw [hy, hyv i o j b ho hg w (vs j) (hV j hdj)]
    have hI : ∀ v w', C w' → Step w w' → V i w' v → Inv ops a0 C V (fun k => (listed.setIfInBounds i true).getD k false) (fun k => if k = i then v else vs k) (a.put o.dst v) w' := by
      intro v w' hC hS hVv
      have hgi : (listed.setIfInBounds i true).getD i false = true := by simp [Array.getD, hs, hin]
      have hgo : ∀ k, k ≠ i → (listed.setIfInBounds i true).getD k false = listed.getD k false := fun k hk => getD_set_ne false (Ne.symm hk)
      refine ⟨hC, by rw [← I.defers]; cases o.dst <;> rfl, by rw [← I.size]; cases o.dst <;> simp [Act.put], fun s => ?_, fun k hk hl => ?_, fun k o' hk hl j hj => ?_⟩
      · by_cases hd : o.dst = some s
        · have Fd := F.dst s hd
          have e1 : (a.put o.dst v).tmps.getD s undef = v := by
            rw [hd]; simp [Act.put, Array.getD, I.size, Fd.1]
          rw [e1]
          unfold look
          rw [find_unique (i := i) hin (by simp only [hgi, dstOf, ho, Option.bind_some, hd, beq_self_eq_true, Bool.and_self]) (fun k hk hp => by
            by_cases e : k = i
            · exact e
            · simp only [Bool.and_eq_true, beq_iff_eq] at hp
              exact absurd hp.2 (Fd.2 k hk e))]
          simp
        · have e1 : (a.put o.dst v).tmps.getD s undef = a.tmps.getD s undef := by
            cases hdo : o.dst with
            | none => rfl
            | some d =>
              have hne : d ≠ s := fun e => hd (by rw [hdo, e])
              have := Act.eval_put (a := a) (dst := some d) (v := v) (x := .tmp s) (fun d' hd' => by cases hd'; intro e; cases e; exact hne rfl)
              exact this
          rw [e1, I.slot s]
          unfold look
          rw [find_congr (p := fun k => (listed.setIfInBounds i true).getD k false && dstOf ops k == some s) (q := fun k => listed.getD k false && dstOf ops k == some s) (fun k hk => by
            by_cases e : k = i
            · subst e
              have : (dstOf ops k == some s) = false := by simp only [dstOf, ho, Option.bind_some, beq_eq_false_iff_ne]; exact hd
              rw [this, Bool.and_false, Bool.and_false]
            · rw [hgo k e])]
          cases hf : (List.range ops.size).find? (fun k => listed.getD k false && dstOf ops k == some s) with
          | none => rfl
          | some k =>
            have hp := List.find?_some hf
            simp only [Bool.and_eq_true] at hp
            have : k ≠ i := fun e => by rw [e, hun] at hp; exact absurd hp.1 (by simp)
            simp [this]
      · by_cases e : k = i
        · subst e; simpa using hVv
        · simp only [e, if_false]
          exact hstab k w w' _ hk hS (I.val k hk (by rw [← hgo k e]; exact hl))
      · by_cases e : k = i
        · subst e
          have : o' = o := by rw [ho] at hk; exact (Option.some.inj hk).symm
          subst this
          have hlj := hdep j hj
          by_cases ej : j = k
          · rw [ej]; exact hgi
          · rw [hgo j ej]; exact hlj
        · have h2 := I.closed k o' hk (by rw [← hgo k e]; exact hl) j hj
          by_cases ej : j = i
          · rw [ej]; exact hgi
          · rw [hgo j ej]; exact h2
    have hc' : ((List.range ops.size).filter (fun k => !(listed.setIfInBounds i true).getD k false)).length ≤ fuel := by
      have := count_lt (l := List.range ops.size) (x := i) (p := fun k => !listed.getD k false) (q := fun k => !(listed.setIfInBounds i true).getD k false) (List.mem_range.2 hin) (by simp [hun]) (by simp [Array.getD, hs, hin]) (fun k hk => by
        by_cases e : k = i
        · subst e; simp [hun]
        · rw [getD_set_ne false (Ne.symm e)] at hk; exact hk)
      omega
    have hgo := hop i o ho vs w I.cls hV
    unfold wpOp
    simp only [ho]
    rw [hw]
    by_cases hwt : wants yv o = true
    · rw [if_pos hwt] at hgo ⊢
      refine .inl (runs_wp hev ?_)
      have mono : ∀ {R R' : Value → World → Prop}, (∀ v w', R v w' → R' v w') → runs P o (rho ops a0 (depOn o) vs) w R → runs P o (rho ops a0 (depOn o) vs) w R' := by
        intro R R' hR h
        unfold runs at *
        split at h <;> first | exact hR _ _ h | exact Calls.mono h (fun e w'' ⟨v, he, hk⟩ => ⟨v, he, hR _ _ hk⟩) | exact h.elim
      exact mono (fun v w' ⟨h1, h2, h3⟩ => any_ok fuel _ _ _ _ (by simp [hs]) hc' (hI v w' h1 h2 h3)) hgo
    · rw [if_neg hwt] at hgo ⊢
      exact any_ok fuel _ _ _ _ (by simp [hs]) hc' (hI undef w I.cls (hrefl w) hgo)

/-- The frame behind the region: each operation's value in its place. -/
def putAll (vs : Nat → Value) : List (Nat × Option Tmp) → Act → Act
  | [], a => a
  | (i, d) :: l, a => putAll vs l (a.put d (vs i))
theorem put_defers (a : Act) (d : Option Tmp) (v : Value) : (a.put d v).defers = a.defers := by cases d <;> rfl
theorem put_size (a : Act) (d : Option Tmp) (v : Value) : (a.put d v).tmps.size = a.tmps.size := by cases d <;> simp [Act.put]
theorem putAll_defers (vs : Nat → Value) : ∀ (l : List (Nat × Option Tmp)) (a : Act), (putAll vs l a).defers = a.defers
  | [], _ => rfl
  | (i, d) :: l, a => by show (putAll vs l _).defers = _; rw [putAll_defers vs l, put_defers]
theorem putAll_size (vs : Nat → Value) : ∀ (l : List (Nat × Option Tmp)) (a : Act), (putAll vs l a).tmps.size = a.tmps.size
  | [], _ => rfl
  | (i, d) :: l, a => by show (putAll vs l _).tmps.size = _; rw [putAll_size vs l, put_size]
theorem put_getD (a : Act) (d : Option Tmp) (v : Value) (s : Nat) (h : d ≠ some s) : (a.put d v).tmps.getD s undef = a.tmps.getD s undef :=
  Act.eval_put (a := a) (dst := d) (v := v) (x := .tmp s) (fun d' hd' e => by subst hd'; cases e; exact h rfl)
theorem put_same (a : Act) (v : Value) (s : Nat) (h : s < a.tmps.size) : (a.put (some s) v).tmps.getD s undef = v := by simp [Act.put, Array.getD, h]
theorem putAll_getD (vs : Nat → Value) (s : Nat) : ∀ (l : List Nat) (a : Act), l.Nodup → (∀ i ∈ l, ∀ k ∈ l, dstOf ops i = some s → dstOf ops k = some s → k = i) → s < a.tmps.size →
    (putAll vs (l.map fun i => (i, dstOf ops i)) a).tmps.getD s undef = match l.find? (fun i => dstOf ops i == some s) with | some i => vs i | none => a.tmps.getD s undef
  | [], _, _, _, _ => rfl
  | i :: l, a, hn, hu, hs => by
    have hn' := List.nodup_cons.1 hn
    have hu' : ∀ j ∈ l, ∀ k ∈ l, dstOf ops j = some s → dstOf ops k = some s → k = j := fun j hj k hk => hu j (List.mem_cons_of_mem _ hj) k (List.mem_cons_of_mem _ hk)
    show (putAll vs (l.map fun i => (i, dstOf ops i)) (a.put (dstOf ops i) (vs i))).tmps.getD s undef = _
    rw [putAll_getD vs s l _ hn'.2 hu' (by rw [put_size]; exact hs), List.find?_cons]
    by_cases hd : dstOf ops i = some s
    · have hb : (dstOf ops i == some s) = true := by simpa using hd
      rw [hb]
      have : l.find? (fun i => dstOf ops i == some s) = none := by
        rw [List.find?_eq_none]
        intro k hk hc
        have := hu i List.mem_cons_self k (List.mem_cons_of_mem _ hk) hd (by simpa using hc)
        subst this
        exact hn'.1 hk
      rw [this, hd]
      exact put_same a (vs i) s hs
    · have hb : (dstOf ops i == some s) = false := by simpa using hd
      rw [hb]
      cases l.find? (fun i => dstOf ops i == some s) with
      | some k => rfl
      | none => exact put_getD a _ _ s hd
theorem frame_is {a : Act} {vs : Nat → Value} {D : List (Nat × Option Tmp)} (hok : regionOk ops a0.tmps.size = true) (hD : (List.range ops.size).map (fun i => (i, dstOf ops i)) = D)
    (hd : a.defers = a0.defers) (hs : a.tmps.size = a0.tmps.size) (hl : ∀ s, a.tmps.getD s undef = look ops a0 (fun _ => true) vs s) : a = putAll vs D a0 := by
  subst hD
  have e1 : a.tmps = (putAll vs ((List.range ops.size).map fun i => (i, dstOf ops i)) a0).tmps := by
    apply Array.ext
    · rw [putAll_size, hs]
    · intro s h1 h2
      have g1 : a.tmps.getD s undef = a.tmps[s] := by simp [Array.getD, h1]
      have g2 : (putAll vs ((List.range ops.size).map fun i => (i, dstOf ops i)) a0).tmps.getD s undef = (putAll vs ((List.range ops.size).map fun i => (i, dstOf ops i)) a0).tmps[s] := by simp [Array.getD, h2]
      rw [← g1, ← g2, hl s, putAll_getD vs s (List.range ops.size) a0 List.nodup_range (fun i hi k hk h3 h4 => by
        have hi := List.mem_range.1 hi
        have hk := List.mem_range.1 hk
        have F := fact_of hok (Array.getElem?_eq_getElem hi)
        by_cases e : k = i
        · exact e
        · have hdi : ops[i].dst = some s := by
            have := h3
            unfold dstOf at this
            rw [Array.getElem?_eq_getElem hi] at this
            exact this
          exact absurd h4 ((F.dst s hdi).2 k hk e)) (by omega)]
      unfold look
      simp only [Bool.true_and]
  cases a
  have e2 := putAll_defers vs ((List.range ops.size).map fun i => (i, dstOf ops i)) a0
  generalize putAll vs ((List.range ops.size).map fun i => (i, dstOf ops i)) a0 = b at *
  cases b
  simp only at e1 e2 hd
  subst e1
  rw [hd, ← e2]

/-- THE LAW. C: the worlds of the class; Step: from a world to a later one; V i: what operation i tells; yv: the outcome of a guard. -/
theorem region_all {id : Nat} {w : World} (V : Nat → World → Value → Prop) (yv : Nat → Option Bool) (C : World → Prop) (Step : World → World → Prop) (D : List (Nat × Option Tmp)) (hm : P.follows .mixedOrders = true)
    (hok : regionOk ops a0.tmps.size = true) (hD : (List.range ops.size).map (fun i => (i, dstOf ops i)) = D)
    (hrefl : ∀ w, Step w w) (hstab : ∀ i w w' v, i < ops.size → Step w w' → V i w v → V i w' v)
    (hyv : ∀ (i : Nat) (o : Oper) (j : Nat) (b : Bool), ops[i]? = some o → o.guard = some (j, b) → ∀ w v, V j w v → boolOf v = yv j)
    (h0 : C w.drew)
    (hop : ∀ i o, ops[i]? = some o → ∀ (vs : Nat → Value) w, C w → (∀ j, depOn o j = true → V j w (vs j)) →
      if wants yv o = true then runs P o (rho ops a0 (depOn o) vs) w (fun v w' => C w' ∧ Step w w' ∧ V i w' v) else V i w undef)
    (hend : ∀ (vs : Nat → Value) w, C w → (∀ i, i < ops.size → V i w (vs i)) → Q .normal (putAll vs D a0) w) : (Code.region id ops true).wp P Q a0 w :=
  wp_region_any hm (any_ok hok hrefl hstab hyv hop (fun vs w a hC hV h1 h2 h3 => by rw [frame_is hok hD h1 h2 h3]; exact hend vs w hC hV) ops.size (Array.replicate ops.size false) (fun _ => undef) a0 _ (by simp)
    (Nat.le_trans (List.length_filter_le _ _) (by simp)) ⟨h0, rfl, rfl, fun s => by
      unfold look
      have : (List.range ops.size).find? (fun i => (Array.replicate ops.size false).getD i false && dstOf ops i == some s) = none := by
        rw [List.find?_eq_none]
        intro k hk hc
        have hk := List.mem_range.1 hk
        simp [Array.getD, hk] at hc
      rw [this], fun i hi hl => by simp [Array.getD, hi] at hl, fun i o ho hl => by
        have hi : i < ops.size := (Array.getElem?_eq_some_iff.1 ho).1
        simp [Array.getD, hi] at hl⟩)
end

/-! ### 2. The same, operation by operation, over the worlds that have grown out of one -/
theorem runs_val {P : Program} {o : Oper} {ρ : Operand → Value} {w w' : World} {R : Value → World → Prop} {v : Value} (h : (execOp ρ o).run P w = .ok (.value v) w') (hR : R v w') : runs P o ρ w R := by
  unfold runs; rw [h]; exact hR
theorem runs_skip {P : Program} {o : Oper} {ρ : Operand → Value} {w w' : World} {R : Value → World → Prop} (h : (execOp ρ o).run P w = .ok .skip w') (hR : R undef w') : runs P o ρ w R := by
  unfold runs; rw [h]; exact hR
theorem runs_call {P : Program} {o : Oper} {ρ : Operand → Value} {w w' : World} {R : Value → World → Prop} {f : FuncId} {args : Array Value} (h : (execOp ρ o).run P w = .ok (.enter f args) w') (hR : Calls P f args w' fun e w'' => ∃ v, e = .returned v ∧ R v w'') : runs P o ρ w R := by
  unfold runs; rw [h]; exact hR
/-- A whole array, or a struct, read out of its block. -/
theorem runs_load {P : Program} {o : Oper} {ρ : Operand → Value} {w : World} {R : Value → World → Prop} (ty : TypeId) (x : Operand) (ho : o.op = .load ty x)
    (g : Nat) (hx : ρ x = .pointer (some ⟨g, 0, none⟩)) (t : TypeId) (cs : Array Value) (fr : Nat × Nat) (d : TypeDesc) (hg : w.heap[g]? = some (.cells cs t fr))
    (hu : P.underlying ty = some d) (hd : (match d with | .struct _ | .array _ _ => true | _ => false) = true) (hi : (P.info? ty).map (·.size) = some cs.size) (hR : R (.agg cs) w) : runs P o ρ w R := by
  unfold runs execOp
  simp only [ho, hx, Instr.loadAt, Instr.sureAddr, Sem.run_bind, Sem.run_pure, Result.andThen_ok, run_loadVar_row w g t ty cs fr d hg hu hd hi]
  exact hR

/-- What is asked of operation i. -/
def Hop (P : Program) (ops : Array Oper) (a0 : Act) (yv : Nat → Option Bool) (W : World) (V : Nat → World → Value → Prop) (i : Nat) (o : Oper) : Prop :=
  ∀ (vs : Nat → Value) (w : World), Below W.heap.size W w → (∀ j, depOn o j = true → V j w (vs j)) →
    if wants yv o = true then runs P o (rho ops a0 (depOn o) vs) w (fun v w' => Below w.heap.size w w' ∧ V i w' v) else V i w undef
def HopAll (P : Program) (ops : Array Oper) (a0 : Act) (yv : Nat → Option Bool) (W : World) (V : Nat → World → Value → Prop) : Nat → List Oper → Prop
  | _, [] => True
  | i, o :: l => Hop P ops a0 yv W V i o ∧ HopAll P ops a0 yv W V (i + 1) l
theorem HopAll.at_ {P : Program} {ops : Array Oper} {a0 : Act} {yv : Nat → Option Bool} {W : World} {V : Nat → World → Value → Prop} (l : List Oper) : ∀ (k i : Nat) (o : Oper), HopAll P ops a0 yv W V k l → l[i]? = some o → Hop P ops a0 yv W V (k + i) o := by
  induction l with
  | nil => intro k i o _ ho; simp at ho
  | cons o' l ih =>
    intro k i o h ho
    cases i with
    | zero =>
      have e : o' = o := by simpa using ho
      subst e
      exact h.1
    | succ i =>
      have h2 := ih (k + 1) i o h.2 (by simpa using ho)
      rw [show k + (i + 1) = k + 1 + i by omega]
      exact h2
/-- Stable: it stays so in later worlds. -/
def Stab (V : Nat → World → Value → Prop) (n : Nat) : Prop := ∀ i, i < n → ∀ (w w' : World) v, Below w.heap.size w w' → V i w v → V i w' v
def StabAll : List (World → Value → Prop) → Prop
  | [] => True
  | p :: l => (∀ (w w' : World) v, Below w.heap.size w w' → p w v → p w' v) ∧ StabAll l
theorem StabAll.at_ (l : List (World → Value → Prop)) : ∀ (i : Nat), StabAll l → ∀ (w w' : World) v, Below w.heap.size w w' → (l.getD i fun _ _ => True) w v → (l.getD i fun _ _ => True) w' v := by
  induction l with
  | nil => intro i _ w w' v _ h; simp
  | cons p l ih =>
    intro i hs w w' v hb h
    cases i with
    | zero => exact hs.1 w w' v hb h
    | succ i => exact ih i hs.2 w w' v hb h

theorem region_grown {P : Program} {ops : Array Oper} {Q : Exit → Act → World → Prop} {a0 : Act} {id : Nat} {W : World} (Vl : List (World → Value → Prop)) (yv : Nat → Option Bool) (D : List (Nat × Option Tmp)) (G : List Nat)
    (hm : P.follows .mixedOrders = true) (hok : regionOk ops a0.tmps.size = true) (hD : (List.range ops.size).map (fun i => (i, dstOf ops i)) = D)
    (hG : (List.range ops.size).all (fun i => match (ops[i]?).bind (·.guard) with | some (j, _) => G.contains j | none => true) = true)
    (hyv : ∀ j, j ∈ G → ∀ w v, (Vl.getD j fun _ _ => True) w v → boolOf v = yv j)
    (hstab : StabAll Vl)
    (hop : HopAll P ops a0 yv W (fun i => Vl.getD i fun _ _ => True) 0 ops.toList)
    (hend : ∀ (vs : Nat → Value) w, Below W.heap.size W w → (∀ i, i < ops.size → (Vl.getD i fun _ _ => True) w (vs i)) → Q .normal (putAll vs D a0) w) : (Code.region id ops true).wp P Q a0 W :=
  region_all (fun i => Vl.getD i fun _ _ => True) yv (fun w => Below W.heap.size W w) (fun w w' => Below w.heap.size w w') D hm hok hD (fun w => Below.refl _ _)
    (fun i w w' v _ hb h => StabAll.at_ _ i hstab w w' v hb h)
    (fun i o j b ho hg w v hv => by
      have hi : i < ops.size := (Array.getElem?_eq_some_iff.1 ho).1
      have := range_all hG hi
      simp only [ho, Option.bind_some, hg] at this
      exact hyv j (by simpa using this) w v hv)
    (below_drew1 (Below.refl _ _))
    (fun i o ho vs w hC hV => by
      have h := HopAll.at_ _ 0 i o hop (by simpa using ho) vs w hC hV
      rw [Nat.zero_add] at h
      by_cases hw : wants yv o = true
      · rw [if_pos hw] at h ⊢
        have mono : ∀ {R R' : Value → World → Prop}, (∀ v w', R v w' → R' v w') → runs P o (rho ops a0 (depOn o) vs) w R → runs P o (rho ops a0 (depOn o) vs) w R' := by
          intro R R' hR h
          unfold runs at *
          split at h <;> first | exact hR _ _ h | exact Calls.mono h (fun e w'' ⟨v, he, hk⟩ => ⟨v, he, hR _ _ hk⟩) | exact h.elim
        exact mono (fun v w' ⟨h1, h2⟩ => ⟨below_step hC h1, h1, h2⟩) h
      · rw [if_neg hw] at h ⊢; exact h)
    hend
end Go.Proofs.Ytkjjmmgngdpppaa

namespace Go.Proofs.Ytkjjmmgngdpppaa
open Go.RowKit Go.Proofs.YtkjjmmgngdpppaaW.PrintWords Go.Proofs.YtkjjmmgngdpppaaW.PrintLast Go.Proofs.YtkjjmmgngdpppaaW.PrintMore
set_option linter.unusedVariables false
set_option linter.unusedSimpArgs false

theorem rounds_up {f : Nat → Option (List Int)} (hm : ∀ k, LeO (f k) (f (k + 1))) {k : Nat} {r : List Int} (h : f k = some r) : ∀ n, f (k + n) = some r
  | 0 => h
  | n + 1 => hm (k + n) r (rounds_up hm h n)
/-- A cell's bytes. -/
def cellN (a b : Nat) : List Int := lowN a 4 ++ lowN b 4
theorem bytes_f (k : Nat) (a b : Int) (x y : Nat) (hx : a % 4294967296 = x) (hy : IntKind.u64.wrap b = y) (hxl : x ≤ 18446744073709551615) (hyl : y ≤ 18446744073709551615) : hoodwinkref06_Bytes.f (k + 10) a b = some (cellN x y) := by
  unfold hoodwinkref06_Bytes.f
  have low : ∀ z : Nat, z ≤ 18446744073709551615 → hoodwinkref01_Low.f (k + 10) (z : Int) 4 = some (lowN z 4) := fun z hz => by
    have := low_l0 4 (by omega) 4 (k + 10) 0 z [] (by omega) (by omega) hz rfl
    simpa [hoodwinkref01_Low.f] using this
  have join : hoodwinkref01_Join.f (k + 10) [lowN x 4, lowN y 4] = some (cellN x y) := by
    have := join_l0 [lowN x 4, lowN y 4] (by simp [lowN_length]) (by simp) 2 (k + 10) 0 (by simp) (by omega)
    simpa [hoodwinkref01_Join.f, cellN] using this
  rw [hx, hy, low x hxl]
  show ((hoodwinkref01_Low.f (k + 10) (y : Int) 4).bind fun t150 => ((hoodwinkref01_Join.f (k + 10) [lowN x 4, t150]).bind fun t156 => some t156)) = _
  rw [low y hyl]
  show ((hoodwinkref01_Join.f (k + 10) [lowN x 4, lowN y 4]).bind fun t156 => some t156) = _
  rw [join]; rfl
set_option maxHeartbeats 8000000 in
set_option maxRecDepth 100000 in
theorem bytes_any (a b : Int) (x y : Nat) (hx : a % 4294967296 = x) (hy : IntKind.u64.wrap b = y) (hxl : x ≤ 18446744073709551615) (hyl : y ≤ 18446744073709551615) (w : World) :
    Calls Try.prog 38 #[.agg #[.int .i32 a, .int .u32 b]] w fun e w' => ∃ v, e = .returned v ∧ (Kd.int .u8).R 5 w' w.heap.size (fun _ => True) v (cellN x y) ∧ Below w.heap.size w w' := by
  have g0 : (w.alloc (.cells #[.int .i32 a, .int .u32 b] 52)).heap[w.heap.size]? = some (.cells #[.int .i32 a, .int .u32 b] 52 (0, 0)) := blk_new _ _
  have hal := below_alloc (Below.refl w.heap.size w) (.cells #[.int .i32 a, .int .u32 b] 52)
  obtain ⟨W, hW⟩ : ∃ W, w.alloc (.cells #[.int .i32 a, .int .u32 b] 52) = W := ⟨_, rfl⟩
  rw [hW] at g0 hal
  have G0 := Aside0.mk g0
  have HAL := Aside0.mk hal
  have HLE := Aside0.mk hal.size
  have HW := Aside0.mk hW
  have HX := Aside0.mk hx
  have HY := Aside0.mk hy
  have HZL := Aside0.mk (And.intro hxl hyl)
  clear g0 hal hW hx hy hxl hyl
  go_enter Try.func38, Try.ntmps38
  go_wp2_with fail
  rw [HW.out]
  clear HW
  generalize hgs : w.heap.size = gs at *
  have HGS := Aside0.mk hgs
  clear hgs
  refine region_grown (W := W)
    [fun (w : World) (v : Value) => v = .pointer (some ⟨gs, 0, none⟩),
   fun (w : World) (v : Value) => v = .int .i32 a,
   fun (w : World) (v : Value) => v = .int .u32 x,
   fun (w : World) (v : Value) => v = .int .u64 x,
   fun (w : World) (v : Value) => ∃ A c, v = .slice A 4 c ∧ 4 ≤ c ∧ (Kd.int .u8).C w A 4 (lowN x 4),
   fun (w : World) (v : Value) => v = .pointer (some ⟨gs, 1, none⟩),
   fun (w : World) (v : Value) => v = .int .u32 b,
   fun (w : World) (v : Value) => v = .int .u64 y,
   fun (w : World) (v : Value) => ∃ A c, v = .slice A 4 c ∧ 4 ≤ c ∧ (Kd.int .u8).C w A 4 (lowN y 4),
   fun (w : World) (v : Value) => ∃ A, v = .slice A 2 2 ∧ (Kd.slice 5 (Kd.int .u8)).C w A 2 [lowN x 4, lowN y 4],
   fun (w : World) (v : Value) => (Kd.int .u8).R 5 w W.heap.size (fun _ => True) v (cellN x y),
   fun (w : World) (v : Value) => (Kd.int .u8).R 5 w W.heap.size (fun _ => True) v (cellN x y)]
    (fun j =>  none)
    [(0, some 3), (1, some 4), (2, some 5), (3, some 6), (4, some 7), (5, some 8), (6, some 9), (7, some 10), (8, some 11), (9, some 12), (10, some 13), (11, some 2)]
    []
    (by kernel_rfl) (by kernel_rfl) (by kernel_rfl) (by kernel_rfl) ?r1_1g ?r1_1s ⟨?r1_1o0, ?r1_1o1, ?r1_1o2, ?r1_1o3, ?r1_1o4, ?r1_1o5, ?r1_1o6, ?r1_1o7, ?r1_1o8, ?r1_1o9, ?r1_1o10, ?r1_1o11, trivial⟩ ?r1_1e
  case r1_1g =>
    intro j hj; cases hj
  case r1_1s =>
    refine ⟨(fun w w' v hb h => h), (fun w w' v hb h => h), (fun w w' v hb h => h), (fun w w' v hb h => h), (fun w w' v hb h => let ⟨A, c, h1, h2, h3⟩ := h; ⟨A, c, h1, h2, Kd.C_below h3 hb⟩), (fun w w' v hb h => h), (fun w w' v hb h => h), (fun w w' v hb h => h), (fun w w' v hb h => let ⟨A, c, h1, h2, h3⟩ := h; ⟨A, c, h1, h2, Kd.C_below h3 hb⟩), (fun w w' v hb h => let ⟨A, h1, h2⟩ := h; ⟨A, h1, Kd.C_below h2 hb⟩), (fun w w' v hb h => Kd.R_below h hb), (fun w w' v hb h => Kd.R_below h hb), trivial⟩
  case r1_1o0 =>
    intro vs w hb hV
    rw [if_pos (by kernel_rfl)]
    generalize hρ : rho _ _ _ vs = ρ
    have e1 : ρ (.tmp 1) = .pointer (some ⟨gs, 0, none⟩) := by rw [← hρ]; kernel_rfl
    clear hρ hV
    refine runs_val (v := .pointer (some ⟨gs, 0, none⟩)) (w' := w) ?_ ⟨Below.refl _ _, rfl⟩
    go_simp <;> (first | exact IntWalk.u64_in _ (by omega) | exact IntWalk.u32_in _ (by omega) | exact IntWalk.u16_in _ (by omega) | exact IntWalk.u8_in _ (by omega) | exact IntWalk.i64_in _ (by omega) | skip)
  case r1_1o1 =>
    intro vs w hb hV
    rw [if_pos (by kernel_rfl)]
    generalize hρ : rho _ _ _ vs = ρ
    have d3 : (vs 0) = .pointer (some ⟨gs, 0, none⟩) := hV 0 (by kernel_rfl)
    have e3 : ρ (.tmp 3) = vs 0 := by rw [← hρ]; kernel_rfl
    rw [d3] at e3; clear d3
    clear hρ hV
    have c0 := pw_cell_below hb (blk_cell G0.out 0)
    refine runs_val (v := .int .i32 a) (w' := w) ?_ ⟨Below.refl _ _, rfl⟩
    go_simp
  case r1_1o2 =>
    intro vs w hb hV
    rw [if_pos (by kernel_rfl)]
    generalize hρ : rho _ _ _ vs = ρ
    have d4 : (vs 1) = .int .i32 a := hV 1 (by kernel_rfl)
    have e4 : ρ (.tmp 4) = vs 1 := by rw [← hρ]; kernel_rfl
    rw [d4] at e4; clear d4
    clear hρ hV
    refine runs_val (v := .int .u32 x) (w' := w) ?_ ⟨Below.refl _ _, rfl⟩
    go_simp
    rw [IntKind.wrap_u32']; exact HX.out
  case r1_1o3 =>
    intro vs w hb hV
    rw [if_pos (by kernel_rfl)]
    generalize hρ : rho _ _ _ vs = ρ
    have d5 : (vs 2) = .int .u32 x := hV 2 (by kernel_rfl)
    have e5 : ρ (.tmp 5) = vs 2 := by rw [← hρ]; kernel_rfl
    rw [d5] at e5; clear d5
    clear hρ hV
    refine runs_val (v := .int .u64 x) (w' := w) ?_ ⟨Below.refl _ _, rfl⟩
    go_simp
    exact IntWalk.u64_in _ (by have := HZL.out; omega)
  case r1_1o4 =>
    intro vs w hb hV
    rw [if_pos (by kernel_rfl)]
    generalize hρ : rho _ _ _ vs = ρ
    have d6 : (vs 3) = .int .u64 x := hV 3 (by kernel_rfl)
    have e6 : ρ (.tmp 6) = vs 3 := by rw [← hρ]; kernel_rfl
    rw [d6] at e6; clear d6
    have ef40 : ρ (.func 40) = .func (.func 40) #[] #[] := by rw [← hρ]; rfl
    have econ : ∀ v : Value, ρ (.const v) = v := fun v => by rw [← hρ]; rfl
    clear hρ hV
    refine runs_call (f := 40) (args := #[.int .u64 x, .int .i64 4]) (w' := w) ?_ ?_
    · go_simp
    · refine (low_any x 4 w HZL.out.1 (by omega)).mono ?_
      rintro e w5 ⟨v, rfl, hv, hb5⟩
      obtain ⟨A1, c1, e1, e2, e3⟩ := Kd.R_reads hv
      rw [lowN_length] at e1 e2 e3
      exact ⟨_, rfl, hb5, A1, c1, e1, e2, e3⟩
  case r1_1o5 =>
    intro vs w hb hV
    rw [if_pos (by kernel_rfl)]
    generalize hρ : rho _ _ _ vs = ρ
    have e1 : ρ (.tmp 1) = .pointer (some ⟨gs, 0, none⟩) := by rw [← hρ]; kernel_rfl
    clear hρ hV
    refine runs_val (v := .pointer (some ⟨gs, 1, none⟩)) (w' := w) ?_ ⟨Below.refl _ _, rfl⟩
    go_simp <;> (first | exact IntWalk.u64_in _ (by omega) | exact IntWalk.u32_in _ (by omega) | exact IntWalk.u16_in _ (by omega) | exact IntWalk.u8_in _ (by omega) | exact IntWalk.i64_in _ (by omega) | skip)
  case r1_1o6 =>
    intro vs w hb hV
    rw [if_pos (by kernel_rfl)]
    generalize hρ : rho _ _ _ vs = ρ
    have d8 : (vs 5) = .pointer (some ⟨gs, 1, none⟩) := hV 5 (by kernel_rfl)
    have e8 : ρ (.tmp 8) = vs 5 := by rw [← hρ]; kernel_rfl
    rw [d8] at e8; clear d8
    clear hρ hV
    have c0 := pw_cell_below hb (blk_cell G0.out 1)
    refine runs_val (v := .int .u32 b) (w' := w) ?_ ⟨Below.refl _ _, rfl⟩
    go_simp
  case r1_1o7 =>
    intro vs w hb hV
    rw [if_pos (by kernel_rfl)]
    generalize hρ : rho _ _ _ vs = ρ
    have d9 : (vs 6) = .int .u32 b := hV 6 (by kernel_rfl)
    have e9 : ρ (.tmp 9) = vs 6 := by rw [← hρ]; kernel_rfl
    rw [d9] at e9; clear d9
    clear hρ hV
    refine runs_val (v := .int .u64 y) (w' := w) ?_ ⟨Below.refl _ _, rfl⟩
    go_simp
    exact HY.out
  case r1_1o8 =>
    intro vs w hb hV
    rw [if_pos (by kernel_rfl)]
    generalize hρ : rho _ _ _ vs = ρ
    have d10 : (vs 7) = .int .u64 y := hV 7 (by kernel_rfl)
    have e10 : ρ (.tmp 10) = vs 7 := by rw [← hρ]; kernel_rfl
    rw [d10] at e10; clear d10
    have ef40 : ρ (.func 40) = .func (.func 40) #[] #[] := by rw [← hρ]; rfl
    have econ : ∀ v : Value, ρ (.const v) = v := fun v => by rw [← hρ]; rfl
    clear hρ hV
    refine runs_call (f := 40) (args := #[.int .u64 y, .int .i64 4]) (w' := w) ?_ ?_
    · go_simp
    · refine (low_any y 4 w HZL.out.2 (by omega)).mono ?_
      rintro e w5 ⟨v, rfl, hv, hb5⟩
      obtain ⟨A1, c1, e1, e2, e3⟩ := Kd.R_reads hv
      rw [lowN_length] at e1 e2 e3
      exact ⟨_, rfl, hb5, A1, c1, e1, e2, e3⟩
  case r1_1o9 =>
    intro vs w hb hV
    rw [if_pos (by kernel_rfl)]
    generalize hρ : rho _ _ _ vs = ρ
    have d7 : (fun (w : World) (v : Value) => ∃ A c, v = .slice A 4 c ∧ 4 ≤ c ∧ (Kd.int .u8).C w A 4 (lowN x 4)) w (vs 4) := hV 4 (by kernel_rfl)
    have e7 : ρ (.tmp 7) = vs 4 := by rw [← hρ]; kernel_rfl
    obtain ⟨A1, c1, h1, hc1, hC1⟩ := d7
    have d11 : (fun (w : World) (v : Value) => ∃ A c, v = .slice A 4 c ∧ 4 ≤ c ∧ (Kd.int .u8).C w A 4 (lowN y 4)) w (vs 8) := hV 8 (by kernel_rfl)
    have e11 : ρ (.tmp 11) = vs 8 := by rw [← hρ]; kernel_rfl
    obtain ⟨A2, c2, h2, hc2, hC2⟩ := d11
    clear hρ hV
    rw [h1] at e7
    rw [h2] at e11
    refine runs_val (v := .slice (some ⟨w.heap.size, 0, none⟩) 2 2) (w' := w.alloc (.cells #[.slice A1 4 c1, .slice A2 4 c2] 70)) ?_ ⟨below_alloc (Below.refl _ _) _, _, rfl, C_of_two (heap_alloc_new _ _) (Kd.C_alloc hC1 _) hc1 (Kd.C_alloc hC2 _) hc2⟩
    go_simp
  case r1_1o10 =>
    intro vs w hb hV
    rw [if_pos (by kernel_rfl)]
    generalize hρ : rho _ _ _ vs = ρ
    have d12 : (fun (w : World) (v : Value) => ∃ A, v = .slice A 2 2 ∧ (Kd.slice 5 (Kd.int .u8)).C w A 2 [lowN x 4, lowN y 4]) w (vs 9) := hV 9 (by kernel_rfl)
    have e12 : ρ (.tmp 12) = vs 9 := by rw [← hρ]; kernel_rfl
    obtain ⟨A3, h3, hC3⟩ := d12
    have ef46 : ρ (.func 46) = .func (.func 46) #[] #[] := by rw [← hρ]; rfl
    clear hρ hV
    rw [h3] at e12
    refine runs_call (f := 46) (args := #[.slice A3 2 2]) (w' := w) ?_ ?_
    · go_simp
    · refine (join_any A3 2 2 _ w hC3 (by omega) (by simp [lowN_length])).mono ?_
      rintro e w5 ⟨v, rfl, hv, hb5⟩
      refine ⟨_, rfl, hb5, Kd.R_lower ?_ hb.size⟩
      have he : [lowN x 4, lowN y 4].flatten = cellN x y := by simp [cellN]
      rw [he] at hv
      exact hv
  case r1_1o11 =>
    intro vs w hb hV
    rw [if_pos (by kernel_rfl)]
    generalize hρ : rho _ _ _ vs = ρ
    have d13 : (fun (w : World) (v : Value) => (Kd.int .u8).R 5 w W.heap.size (fun _ => True) v (cellN x y)) w (vs 10) := hV 10 (by kernel_rfl)
    have e13 : ρ (.tmp 13) = vs 10 := by rw [← hρ]; kernel_rfl
    clear hρ hV
    refine runs_val (v := vs 10) (w' := w) ?_ ⟨Below.refl _ _, d13⟩
    go_simp
  case r1_1e =>
    intro vs V2 hb2 hV
    have d3 : (vs 0) = .pointer (some ⟨gs, 0, none⟩) := hV 0 (Nat.le_of_ble_eq_true rfl)
    have d4 : (vs 1) = .int .i32 a := hV 1 (Nat.le_of_ble_eq_true rfl)
    have d5 : (vs 2) = .int .u32 x := hV 2 (Nat.le_of_ble_eq_true rfl)
    have d6 : (vs 3) = .int .u64 x := hV 3 (Nat.le_of_ble_eq_true rfl)
    have d7 : (fun (w : World) (v : Value) => ∃ A c, v = .slice A 4 c ∧ 4 ≤ c ∧ (Kd.int .u8).C w A 4 (lowN x 4)) V2 (vs 4) := hV 4 (Nat.le_of_ble_eq_true rfl)
    have d8 : (vs 5) = .pointer (some ⟨gs, 1, none⟩) := hV 5 (Nat.le_of_ble_eq_true rfl)
    have d9 : (vs 6) = .int .u32 b := hV 6 (Nat.le_of_ble_eq_true rfl)
    have d10 : (vs 7) = .int .u64 y := hV 7 (Nat.le_of_ble_eq_true rfl)
    have d11 : (fun (w : World) (v : Value) => ∃ A c, v = .slice A 4 c ∧ 4 ≤ c ∧ (Kd.int .u8).C w A 4 (lowN y 4)) V2 (vs 8) := hV 8 (Nat.le_of_ble_eq_true rfl)
    have d12 : (fun (w : World) (v : Value) => ∃ A, v = .slice A 2 2 ∧ (Kd.slice 5 (Kd.int .u8)).C w A 2 [lowN x 4, lowN y 4]) V2 (vs 9) := hV 9 (Nat.le_of_ble_eq_true rfl)
    have d13 : (fun (w : World) (v : Value) => (Kd.int .u8).R 5 w W.heap.size (fun _ => True) v (cellN x y)) V2 (vs 10) := hV 10 (Nat.le_of_ble_eq_true rfl)
    have d2 : (fun (w : World) (v : Value) => (Kd.int .u8).R 5 w W.heap.size (fun _ => True) v (cellN x y)) V2 (vs 11) := hV 11 (Nat.le_of_ble_eq_true rfl)
    clear hV
    simp only [putAll]
    rw [d3, d4, d5, d6, d8, d9, d10]
    clear d3 d4 d5 d6 d8 d9 d10
    generalize vs 4 = v7 at *
    generalize vs 8 = v11 at *
    generalize vs 9 = v12 at *
    generalize vs 10 = v13 at *
    generalize vs 11 = v2 at *
    clear vs
    simp only [Act.put, List.setIfInBounds_toArray, List.set_cons_zero, List.set_cons_succ]
    clear d7 d11 d12 d13
    go_wp2_with fail
    go_ret
    rw [HGS.out]
    exact ⟨_, rfl, Kd.R_lower d2 HLE.out, HAL.out.trans (hb2.mono HLE.out)⟩
theorem hoodwinkref06_Bytes.calls (k : Nat) (a0_0 : Int) (a0_1 : Int) (r : List Int) (w : World) (h : hoodwinkref06_Bytes.f k a0_0 a0_1 = some r) :
    Calls Try.prog 38 #[.agg #[.int .i32 a0_0, .int .u32 a0_1]] w fun e w' => ∃ v0_ : Value, e = .returned (v0_) ∧ Kd.R (Kd.int .u8) 5 w' w.heap.size (fun _ => True) v0_ r ∧ Below w.heap.size w w' := by
  have hwr : ∃ y : Nat, IntKind.u64.wrap a0_1 = y ∧ y ≤ 18446744073709551615 := by
    refine ⟨(IntKind.u64.wrap a0_1).toNat, ?_, ?_⟩
    · have : IntKind.u64.wrap a0_1 = a0_1 % 18446744073709551616 := by simp [IntKind.wrap, IntKind.bits, IntKind.signed]
      omega
    · have : IntKind.u64.wrap a0_1 = a0_1 % 18446744073709551616 := by simp [IntKind.wrap, IntKind.bits, IntKind.signed]
      omega
  obtain ⟨y, hy, hyl⟩ := hwr
  obtain ⟨x, hx⟩ : ∃ x : Nat, a0_0 % 4294967296 = x := ⟨(a0_0 % 4294967296).toNat, by omega⟩
  have h1 := bytes_f k a0_0 a0_1 x y hx hy (by omega) hyl
  have h2 := rounds_up (f := fun k => hoodwinkref06_Bytes.f k a0_0 a0_1) (fun k => hoodwinkref06_Bytes.mono a0_0 a0_1 k) h 10
  have h3 : r = cellN x y := by
    have : some r = some (cellN x y) := h2.symm.trans h1
    exact Option.some.inj this
  rw [h3]
  exact bytes_any a0_0 a0_1 x y hx hy (by omega) hyl w
end Go.Proofs.Ytkjjmmgngdpppaa

namespace Go.Proofs.Ytkjjmmgngdpppaa
open Go.RowKit Go.Proofs.YtkjjmmgngdpppaaW.PrintWords Go.Proofs.YtkjjmmgngdpppaaW.PrintLast Go.Proofs.YtkjjmmgngdpppaaW.PrintMore
attribute [local go_sem] max2_int min2_int max_two min_two max_three min_three max_four min_four   -- for this text's walks alone
set_option linter.unusedVariables false
set_option linter.unusedSimpArgs false

/-! ### hoodwinkref02_Sum: function 39 -/
mutual
def hoodwinkref02_Sum.l0 : Nat → Int → List Int → Int → Int → Option (Int)
  | 0, _, _, _, _ => none
  | k + 1, x3, x8, x9, x10 => if x10 < x9 then (if 0 ≤ x10 then (if x10 < (x8.length : Int) then (hoodwinkref02_Sum.l1 k x3 (rd x8 x10) 0 x8 x9 x10) else (none)) else (none)) else (some ((IntKind.u64.wrap (4294967295 - x3)) % 4294967296))
def hoodwinkref02_Sum.l1 : Nat → Int → Int → Int → List Int → Int → Int → Option (Int)
  | 0, _, _, _, _, _, _ => none
  | k + 1, x3, x5, x6, x8, x9, x10 => if x6 < 8 then (if 0 ≤ x6 then (if (Int.tmod (IntKind.u64.wrap ((Int.tmod x3 2) + (shr .u64 (IntKind.u64.wrap (x5)) x6))) 2) = 1 then (hoodwinkref02_Sum.l1 k (Go.bits .xor .u64 (IntKind.u64.wrap (Int.tdiv x3 2)) 2197175160) x5 (wrap64 (x6 + 1)) x8 x9 x10) else (hoodwinkref02_Sum.l1 k (IntKind.u64.wrap (Int.tdiv x3 2)) x5 (wrap64 (x6 + 1)) x8 x9 x10)) else (none)) else (hoodwinkref02_Sum.l0 k x3 x8 x9 (wrap64 (x10 + 1)))
end
def hoodwinkref02_Sum.f (k : Nat) (l0 : List Int) : Option (Int) := hoodwinkref02_Sum.l0 k 4294967295 l0 (l0.length : Int) 0
theorem hoodwinkref02_Sum.mono_l : ∀ k, (∀ y0 y1 y2 y3, LeO (hoodwinkref02_Sum.l0 k y0 y1 y2 y3) (hoodwinkref02_Sum.l0 (k + 1) y0 y1 y2 y3)) ∧ (∀ y0 y1 y2 y3 y4 y5, LeO (hoodwinkref02_Sum.l1 k y0 y1 y2 y3 y4 y5) (hoodwinkref02_Sum.l1 (k + 1) y0 y1 y2 y3 y4 y5))
  | 0 => ⟨fun _ _ _ _ r h => by simp [hoodwinkref02_Sum.l0] at h, fun _ _ _ _ _ _ r h => by simp [hoodwinkref02_Sum.l1] at h⟩
  | k + 1 => by
    obtain ⟨ih0, ih1⟩ := hoodwinkref02_Sum.mono_l k
    refine ⟨?_, ?_⟩
    · intro y0 y1 y2 y3
      unfold hoodwinkref02_Sum.l0
      repeat' first
      | (with_reducible exact ih0 _ _ _ _)
      | (with_reducible exact ih1 _ _ _ _ _ _)
      | (with_reducible exact LeO.refl _)
      | (with_reducible exact LeO.none _)
      | (with_reducible refine LeO.ite ?_ ?_)
      | (with_reducible refine LeO.bind ?_ (fun _ => ?_))
      | exact ih0 _ _ _ _
      | exact ih1 _ _ _ _ _ _
      | exact LeO.none _
      | refine LeO.ite ?_ ?_
      | refine LeO.bind ?_ (fun _ => ?_)
    · intro y0 y1 y2 y3 y4 y5
      unfold hoodwinkref02_Sum.l1
      repeat' first
      | (with_reducible exact ih0 _ _ _ _)
      | (with_reducible exact ih1 _ _ _ _ _ _)
      | (with_reducible exact LeO.refl _)
      | (with_reducible exact LeO.none _)
      | (with_reducible refine LeO.ite ?_ ?_)
      | (with_reducible refine LeO.bind ?_ (fun _ => ?_))
      | exact ih0 _ _ _ _
      | exact ih1 _ _ _ _ _ _
      | exact LeO.none _
      | refine LeO.ite ?_ ?_
      | refine LeO.bind ?_ (fun _ => ?_)
theorem hoodwinkref02_Sum.mono : ∀ a0 k, LeO (hoodwinkref02_Sum.f k a0) (hoodwinkref02_Sum.f (k + 1) a0) := by
  intro a0 k
  obtain ⟨ih0, ih1⟩ := hoodwinkref02_Sum.mono_l k
  unfold hoodwinkref02_Sum.f
  repeat' first
      | (with_reducible exact ih0 _ _ _ _)
      | (with_reducible exact ih1 _ _ _ _ _ _)
      | (with_reducible exact LeO.refl _)
      | (with_reducible exact LeO.none _)
      | (with_reducible refine LeO.ite ?_ ?_)
      | (with_reducible refine LeO.bind ?_ (fun _ => ?_))
      | exact ih0 _ _ _ _
      | exact ih1 _ _ _ _ _ _
      | exact LeO.none _
      | refine LeO.ite ?_ ?_
      | refine LeO.bind ?_ (fun _ => ?_)
set_option maxHeartbeats 8000000 in
set_option maxRecDepth 100000 in
theorem hoodwinkref02_Sum.calls (k : Nat) (A0 : Option Addr) (c0 : Nat) (l0 : List Int) (r : Int) (w : World) (hr0 : Kd.C (Kd.int .u8) w A0 l0.length l0) (hc0 : l0.length ≤ c0) (h : hoodwinkref02_Sum.f k l0 = some r) :
    Calls Try.prog 39 #[.slice A0 l0.length c0] w fun e w' => e = .returned (.int .u32 r) ∧ Drawn0 w w' := by
  have HR0 := Aside0.mk hr0
  have HC0 := Aside0.mk hc0
  clear hr0 hc0
  have H : (hoodwinkref02_Sum.l0 k 4294967295 l0 (l0.length : Int) 0) = some r := h
  clear h
  have H' := Aside0.mk H
  clear H
  go_enter Try.func39, Try.ntmps39
  go_wp2
  go_loopg [3, 10] k (fun kq v3 v10 w' => ∃ (x3_1 : Int) (x10_1 : Int), v3 = .int .u64 x3_1 ∧ v10 = .int .i64 x10_1 ∧ Aside0 (hoodwinkref02_Sum.l0 kq x3_1 l0 (l0.length : Int) x10_1 = some r) ∧ Aside0 (kq ≤ k) ∧ Drawn0 w w')
  case atStart => exact ⟨(4294967295), (0), (by first | rfl | (simp; done) | (simp [*]; done)), (by first | rfl | (simp; done) | (simp [*]; done)), H', ⟨Nat.le_refl _⟩, by repeat (first | exact Drawn0.refl _ | apply Drawn0.step)⟩
  case round =>
    clear H'
    obtain ⟨x3_1, x10_1, rfl, rfl, HA, HK1, ⟨m1, rfl⟩⟩ := hrel
    cases gk with
    | zero => exact absurd HA.out (by simp [hoodwinkref02_Sum.l0])
    | succ k1 =>
      have H := HA.out
      clear HA
      simp only [hoodwinkref02_Sum.l0] at H
      by_cases c2 : x10_1 < (l0.length : Int)
      · rw [if_pos c2] at H
        have c2b0 : decide (x10_1 < (l0.length : Int)) = true := decide_eq_true c2
        clear c2
        by_cases c3 : 0 ≤ x10_1
        · rw [if_pos c3] at H
          have c3b0 : decide (0 ≤ x10_1) = true := decide_eq_true c3
          clear c3
          by_cases c4 : x10_1 < (l0.length : Int)
          · rw [if_pos c4] at H
            have c4b0 : decide (x10_1 < (l0.length : Int)) = true := decide_eq_true c4
            clear c4
            have H' := Aside0.mk H
            clear H
            have p159 : 0 ≤ (x10_1 : Int) := of_decide_eq_true (by first | (with_reducible assumption) | assumption)
            have q159 : x10_1 < (l0.length : Int) := of_decide_eq_true (by first | (with_reducible assumption) | assumption)
            obtain ⟨ad159, e159, hx159_0⟩ := Kd.at_int HR0.out x10_1 p159 q159
            cases e159
            replace p159 := eq_true p159
            replace q159 := eq_true q159
            go_wp2
            go_loopg [3, 6] k1 (fun kq v3 v6 w' => ∃ (x3_2 : Int) (x6_2 : Int), v3 = .int .u64 x3_2 ∧ v6 = .int .i64 x6_2 ∧ Aside0 (hoodwinkref02_Sum.l1 kq x3_2 (rd l0 x10_1) x6_2 l0 (l0.length : Int) x10_1 = some r) ∧ Aside0 (kq ≤ k1) ∧ Drawn0 w w')
            case atStart => exact ⟨(x3_1), (0), (by first | rfl | (simp; done) | (simp [*]; done)), (by first | rfl | (simp; done) | (simp [*]; done)), H', ⟨Nat.le_refl _⟩, by repeat (first | exact Drawn0.refl _ | apply Drawn0.step)⟩
            case round =>
              clear H'
              try clear p1
              try clear q1
              try clear hx1
              try clear c2
              try clear c2b0
              try clear p2
              try clear c3
              try clear c3b0
              try clear c4
              try clear c4b0
              try clear hx159_0
              try clear p159
              try clear q159
              obtain ⟨x3_2, x6_2, rfl, rfl, HA, HK2, ⟨m2, rfl⟩⟩ := hrel
              cases gk with
              | zero => exact absurd HA.out (by simp [hoodwinkref02_Sum.l1])
              | succ k2 =>
                have H := HA.out
                clear HA
                simp only [hoodwinkref02_Sum.l1] at H
                by_cases c5 : x6_2 < 8
                · rw [if_pos c5] at H
                  have c5b0 : decide (x6_2 < 8) = true := decide_eq_true c5
                  clear c5
                  by_cases c6 : 0 ≤ x6_2
                  · rw [if_pos c6] at H
                    have c6b0 := eq_true c6
                    have c6b1 : decide (0 ≤ x6_2) = true := decide_eq_true c6
                    clear c6
                    obtain ⟨ji7, hji7⟩ : ∃ j_ : Int, (shr .u64 (IntKind.u64.wrap ((rd l0 x10_1))) x6_2) = j_ := ⟨_, rfl⟩
                    replace H : (if (Int.tmod (IntKind.u64.wrap ((Int.tmod x3_2 2) + (ji7))) 2) = 1 then (hoodwinkref02_Sum.l1 k2 (Go.bits .xor .u64 (IntKind.u64.wrap (Int.tdiv x3_2 2)) 2197175160) (rd l0 x10_1) (wrap64 (x6_2 + 1)) l0 (l0.length : Int) x10_1) else (hoodwinkref02_Sum.l1 k2 (IntKind.u64.wrap (Int.tdiv x3_2 2)) (rd l0 x10_1) (wrap64 (x6_2 + 1)) l0 (l0.length : Int) x10_1)) = some r := by first | (rw [hji7] at H; exact H) | (simp only [hji7] at H ⊢; exact H)
                    have hji7_ : ((IntKind.u64.wrap ((rd l0 x10_1))) / 2 ^ min x6_2.toNat 64) = ji7 := hji7
                    have hji7z : x6_2 ≤ 64 → ((IntKind.u64.wrap ((rd l0 x10_1))) / 2 ^ x6_2.toNat) = ji7 := shr_small hji7
                    by_cases c8 : (Int.tmod (IntKind.u64.wrap ((Int.tmod x3_2 2) + (ji7))) 2) = 1
                    · rw [if_pos c8] at H
                      have c8b0 : ((Int.tmod (IntKind.u64.wrap ((Int.tmod x3_2 2) + (ji7))) 2) == 1) = true := beq_iff_eq.mpr c8
                      have c8b1 : ((Int.tmod (IntKind.u64.wrap ((Int.tmod x3_2 2) + (ji7))) 2) != 1) = false := bne_eq_false_iff_eq.mpr c8
                      clear c8
                      have H' := Aside0.mk H
                      clear H
                      go_wp2
                      go_roundg k2
                      case measure => have := HK1.out; have := HK2.out; omega
                      case rel => exact ⟨(Go.bits .xor .u64 (IntKind.u64.wrap (Int.tdiv x3_2 2)) 2197175160), (wrap64 (x6_2 + 1)), (by first | rfl | (simp; done) | (simp [*]; done)), (by first | rfl | (simp; done) | (simp [*]; done)), H', ⟨by have := HK1.out; have := HK2.out; omega⟩, by repeat (first | exact Drawn0.refl _ | apply Drawn0.step)⟩
                    · rw [if_neg c8] at H
                      have c8b0 : ((Int.tmod (IntKind.u64.wrap ((Int.tmod x3_2 2) + (ji7))) 2) == 1) = false := beq_eq_false_iff_ne.mpr c8
                      have c8b1 : ((Int.tmod (IntKind.u64.wrap ((Int.tmod x3_2 2) + (ji7))) 2) != 1) = true := bne_iff_ne.mpr c8
                      have H' := Aside0.mk H
                      clear H
                      go_wp2
                      go_roundg k2
                      case measure => have := HK1.out; have := HK2.out; omega
                      case rel => exact ⟨(IntKind.u64.wrap (Int.tdiv x3_2 2)), (wrap64 (x6_2 + 1)), (by first | rfl | (simp; done) | (simp [*]; done)), (by first | rfl | (simp; done) | (simp [*]; done)), H', ⟨by have := HK1.out; have := HK2.out; omega⟩, by repeat (first | exact Drawn0.refl _ | apply Drawn0.step)⟩
                  · rw [if_neg c6] at H
                    exact absurd H (by simp)
                · rw [if_neg c5] at H
                  have c5b0 : decide (x6_2 < 8) = false := decide_eq_false c5
                  clear c5
                  have H' := Aside0.mk H
                  clear H
                  go_wp2
                  go_roundg k2
                  case measure => have := HK1.out; have := HK2.out; omega
                  case rel => exact ⟨(x3_2), (wrap64 (x10_1 + 1)), (by first | rfl | (simp; done) | (simp [*]; done)), (by first | rfl | (simp; done) | (simp [*]; done)), H', ⟨by have := HK1.out; have := HK2.out; omega⟩, by repeat (first | exact Drawn0.refl _ | apply Drawn0.step)⟩
          · rw [if_neg c4] at H
            exact absurd H (by simp)
        · rw [if_neg c3] at H
          exact absurd H (by simp)
      · rw [if_neg c2] at H
        have c2b0 : decide (x10_1 < (l0.length : Int)) = false := decide_eq_false c2
        clear c2
        obtain rfl := Option.some.inj H
        go_wp2
        go_ret
        exact ⟨by first | rfl | (simp; done) | (simp [*]; done), by repeat (first | exact Drawn0.refl _ | apply Drawn0.step)⟩

/-! ### hoodwinkref06_Hash: function 29 -/
def hoodwinkref06_Hash.l0 : Nat → List Int → List (S52) → Int → Int → Option (Int)
  | 0, _, _, _, _ => none
  | k + 1, x3, x6, x7, x8 => if x8 < x7 then (if 0 ≤ x8 then (if x8 < (x6.length : Int) then ((hoodwinkref06_Bytes.f k ((rd_T52 x6 x8).f0) ((rd_T52 x6 x8).f1)).bind fun t162 => (if x3.length + t162.length < 140737488355328 then (hoodwinkref06_Hash.l0 k (x3 ++ t162) x6 x7 (wrap64 (x8 + 1))) else (none))) else (none)) else (none)) else ((hoodwinkref02_Sum.f k x3).bind fun t168 => (some t168))
def hoodwinkref06_Hash.f (k : Nat) (l0 : List (S52)) : Option (Int) := hoodwinkref06_Hash.l0 k ([] : List Int) l0 (l0.length : Int) 0
theorem hoodwinkref06_Hash.mono_l : ∀ k, (∀ y0 y1 y2 y3, LeO (hoodwinkref06_Hash.l0 k y0 y1 y2 y3) (hoodwinkref06_Hash.l0 (k + 1) y0 y1 y2 y3))
  | 0 => fun _ _ _ _ r h => by simp [hoodwinkref06_Hash.l0] at h
  | k + 1 => by
    have ih0 := hoodwinkref06_Hash.mono_l k
    · intro y0 y1 y2 y3
      unfold hoodwinkref06_Hash.l0
      repeat' first
      | (with_reducible exact ih0 _ _ _ _)
      | (with_reducible exact hoodwinkref02_Sum.mono _ _)
      | (with_reducible exact hoodwinkref06_Bytes.mono _ _ _)
      | (with_reducible exact LeO.refl _)
      | (with_reducible exact LeO.none _)
      | (with_reducible refine LeO.ite ?_ ?_)
      | (with_reducible refine LeO.bind ?_ (fun _ => ?_))
      | exact ih0 _ _ _ _
      | exact hoodwinkref02_Sum.mono _ _
      | exact hoodwinkref06_Bytes.mono _ _ _
      | exact LeO.none _
      | refine LeO.ite ?_ ?_
      | refine LeO.bind ?_ (fun _ => ?_)
theorem hoodwinkref06_Hash.mono : ∀ a0 k, LeO (hoodwinkref06_Hash.f k a0) (hoodwinkref06_Hash.f (k + 1) a0) := by
  intro a0 k
  have ih0 := hoodwinkref06_Hash.mono_l k
  unfold hoodwinkref06_Hash.f
  repeat' first
      | (with_reducible exact ih0 _ _ _ _)
      | (with_reducible exact hoodwinkref02_Sum.mono _ _)
      | (with_reducible exact hoodwinkref06_Bytes.mono _ _ _)
      | (with_reducible exact LeO.refl _)
      | (with_reducible exact LeO.none _)
      | (with_reducible refine LeO.ite ?_ ?_)
      | (with_reducible refine LeO.bind ?_ (fun _ => ?_))
      | exact ih0 _ _ _ _
      | exact hoodwinkref02_Sum.mono _ _
      | exact hoodwinkref06_Bytes.mono _ _ _
      | exact LeO.none _
      | refine LeO.ite ?_ ?_
      | refine LeO.bind ?_ (fun _ => ?_)
set_option maxHeartbeats 8000000 in
set_option maxRecDepth 100000 in
theorem hoodwinkref06_Hash.calls (k : Nat) (A0 : Option Addr) (c0 : Nat) (l0 : List (S52)) (r : Int) (w : World) (hr0 : Kd.C k52 w A0 l0.length l0) (hc0 : l0.length ≤ c0) (h : hoodwinkref06_Hash.f k l0 = some r) :
    Calls Try.prog 29 #[.slice A0 l0.length c0] w fun e w' => e = .returned (.int .u32 r) ∧ Below w.heap.size w w' := by
  have hu52 := Try.underlying52
  have HR0 := Aside0.mk hr0
  have HC0 := Aside0.mk hc0
  clear hr0 hc0
  have HB := Aside0.mk (Below.refl w.heap.size w)
  have H : (hoodwinkref06_Hash.l0 k ([] : List Int) l0 (l0.length : Int) 0) = some r := h
  clear h
  have H' := Aside0.mk H
  clear H
  go_enter Try.func29, Try.ntmps29
  go_wp2
  go_loopg [3, 8] k (fun kq v3 v8 w' => ∃ (x3_1 : List Int) (x8_1 : Int), v8 = .int .i64 x8_1 ∧ Aside0 (hoodwinkref06_Hash.l0 kq x3_1 l0 (l0.length : Int) x8_1 = some r) ∧ Aside0 (kq ≤ k) ∧ Aside0 (Kd.R (Kd.int .u8) 5 w' w.heap.size (fun _ => True) v3 x3_1) ∧ Aside0 (Below w.heap.size w w'))
  case atStart => exact ⟨(([] : List Int)), (0), (by first | rfl | (simp; done) | (simp [*]; done)), H', ⟨Nat.le_refl _⟩, ⟨by first | exact Kd.R_nil _ _ _ _ _ | exact Kd.N_nil _ _ _ _ _ | exact Kd.V_nil _ _ _ _ _ | exact Kd.Q_nil _ _ _ _ _ | exact Kd.S_nil _ _ _ _ _⟩, ⟨by repeat (first | (with_reducible first | exact HB.out | apply below_alloc | apply pw_below_drewN | apply below_drew1) | exact HB.out)⟩⟩
  case round =>
    clear H'
    obtain ⟨x3_1, x8_1, rfl, HA, HK1, HO_3, HB⟩ := hrel
    cases gk with
    | zero => exact absurd HA.out (by simp [hoodwinkref06_Hash.l0])
    | succ k1 =>
      have H := HA.out
      clear HA
      simp only [hoodwinkref06_Hash.l0] at H
      by_cases c2 : x8_1 < (l0.length : Int)
      · rw [if_pos c2] at H
        have c2b0 : decide (x8_1 < (l0.length : Int)) = true := decide_eq_true c2
        clear c2
        by_cases c3 : 0 ≤ x8_1
        · rw [if_pos c3] at H
          have c3b0 : decide (0 ≤ x8_1) = true := decide_eq_true c3
          clear c3
          by_cases c4 : x8_1 < (l0.length : Int)
          · rw [if_pos c4] at H
            have c4b0 : decide (x8_1 < (l0.length : Int)) = true := decide_eq_true c4
            clear c4
            replace H := Option.bind_eq_some_iff.mp H
            obtain ⟨t162, A50, H⟩ := H
            replace H : (if x3_1.length + t162.length < 140737488355328 then (hoodwinkref06_Hash.l0 k1 (x3_1 ++ t162) l0 (l0.length : Int) (wrap64 (x8_1 + 1))) else (none)) = some r := H
            have A5 := Aside0.mk A50
            clear A50
            by_cases c6 : x3_1.length + t162.length < 140737488355328
            · rw [if_pos c6] at H
              have LMc6 := Aside0.mk c6
              clear c6
              obtain ⟨y165, hy165⟩ : ∃ y_ : List Int, y_ = (x3_1 ++ t162) := ⟨_, rfl⟩
              replace H : (hoodwinkref06_Hash.l0 k1 y165 l0 (l0.length : Int) (wrap64 (x8_1 + 1))) = some r := by first | (rw [hy165]; with_reducible exact H) | (have H2_ := (Option.bind_some _ _).symm.trans H; rw [hy165]; with_reducible exact H2_) | (have H2_ := (Option.bind_some _ _).symm.trans H; with_reducible exact H2_) | with_reducible exact H | (rw [hy165]; exact H) | exact H
              have Ny165 := Aside0.mk hy165
              clear hy165
              have H' := Aside0.mk H
              clear H
              have p160 : 0 ≤ (x8_1 : Int) := of_decide_eq_true (by first | (with_reducible assumption) | assumption)
              have q160 : x8_1 < (l0.length : Int) := of_decide_eq_true (by first | (with_reducible assumption) | assumption)
              obtain ⟨ad160, e160, hx160_0, hx160_1⟩ := at_T52 HR0.out x8_1 p160 q160
              cases e160
              replace hx160_0 := (HB.out.cell (World.block_lt_of_cell? w _ hx160_0)).trans hx160_0
              replace hx160_1 := (HB.out.cell (World.block_lt_of_cell? w _ hx160_1)).trans hx160_1
              replace p160 := eq_true p160
              replace q160 := eq_true q160
              go_wp2_with (first | ((with_reducible refine gate_dst (N := 5) rfl ?_); refine box_event ?hg (N := 5) ?hd (cs := #[.int .i32 0, .int .u32 0]) (t := 52) ?hr ?_; (case hd => rfl); (case hg => rfl); (case hr => first | (go_simp; done) | (go_simp; rfl)); intro gb161 hg w7 hbox hb; have n0_ := Aside0.mk (Kd.R_below (by (with_reducible repeat (first | apply Kd.R_alloc | apply Kd.R_drewN | apply Kd.R_drew)); exact HO_3.out) hb); have n1_ := Aside0.mk (below_step (by repeat (first | (with_reducible first | exact HB.out | apply below_alloc | apply pw_below_drewN | apply below_drew1) | exact HB.out)) hb); have n2_ := Aside0.mk (hbox); have n3_ := Aside0.mk ((by rw [hg]; exact (below_size (by repeat (first | (with_reducible first | exact HB.out | apply below_alloc | apply pw_below_drewN | apply below_drew1) | exact HB.out))) : w.heap.size ≤ gb161)); have n4_ := Aside0.mk ((by rw [hg]; exact (below_size (by repeat (first | (with_reducible first | exact HB.out | apply below_alloc | apply pw_below_drewN | apply below_drew1) | exact HB.out))) : w.heap.size ≤ gb161)); clear HO_3; clear HB; have HO_3 := n0_; have HB := n1_; have BK161 := n2_; have GW161 := n3_; have GE161 := n4_; clear n0_ n1_ n2_ n3_ n4_; clear hb hbox hg; have hcz8_0 : w7.cell? ⟨gb161, 0, none⟩ = some (.int .i32 0) := (blk_cell BK161.out 0).trans rfl; have hcz8_1 : w7.cell? ⟨gb161, 1, none⟩ = some (.int .u32 0) := (blk_cell BK161.out 1).trans rfl; have hfz8_0 := blk_frozen BK161.out 0; have hfz8_1 := blk_frozen BK161.out 1) | ((with_reducible refine gate_callee (f := 38) rfl ?_); refine goesL_ (some 14) rfl rfl Try.func38 (by kernel_rfl) rfl #[.agg #[.int .i32 ((rd_T52 l0 x8_1).f0), .int .u32 ((rd_T52 l0 x8_1).f1)]] rfl (by (try simp only [List.map_toArray, List.map_cons, List.map_nil]); first | done | rfl | (simp only [List.length_drop, List.length_take]; rfl)) ?_; (with_reducible refine (hoodwinkref06_Bytes.calls k1 ((rd_T52 l0 x8_1).f0) ((rd_T52 l0 x8_1).f1) t162 _ A5.out).mono ?_); rintro e w9 ⟨v163, rfl, ho0, hb⟩; refine ⟨_, rfl, ?_⟩; have n0_ := Aside0.mk (Kd.R_elder' (by (with_reducible repeat (first | apply Kd.R_alloc | apply Kd.R_drewN | apply Kd.R_drew)); exact (Kd.R_mono (Kd.R_far (p := ⟨gb161, 1, none⟩) (Kd.R_far (p := ⟨gb161, 0, none⟩) (Kd.R_types HO_3.out BK161.out (by decide)) (fun _ hk => hk.2) (.int .i32 ((rd_T52 l0 x8_1).f0))) (fun _ hk => hk.2) (.int .u32 ((rd_T52 l0 x8_1).f1))) (fun _ h_ => h_.1))) (Kd.R_base ho0) hb); have n1_ := Aside0.mk (Kd.R_lower (Kd.R_new' ho0 (Kd.R_lt (by (with_reducible repeat (first | apply Kd.R_alloc | apply Kd.R_drewN | apply Kd.R_drew)); exact (Kd.R_mono (Kd.R_far (p := ⟨gb161, 1, none⟩) (Kd.R_far (p := ⟨gb161, 0, none⟩) (Kd.R_types HO_3.out BK161.out (by decide)) (fun _ hk => hk.2) (.int .i32 ((rd_T52 l0 x8_1).f0))) (fun _ hk => hk.2) (.int .u32 ((rd_T52 l0 x8_1).f1))) (fun _ h_ => h_.1))))) (below_size (by repeat (first | (with_reducible first | exact HB.out | apply below_alloc | apply pw_below_drewN | apply below_drew1 | refine below_set ?_ GE161.out) | exact HB.out)))); have n2_ := Aside0.mk (blk_below (g := gb161) (o := .cells #[.int .i32 ((rd_T52 l0 x8_1).f0), .int .u32 ((rd_T52 l0 x8_1).f1)] 52 (0, 0)) (by (with_reducible repeat (first | refine blk_drewN ?_ _ | refine blk_drew ?_ | refine blk_alloc ?_ _)); refine blk_put (cs := #[.int .i32 ((rd_T52 l0 x8_1).f0), .int .u32 0]) ?_ 1 _ rfl; (with_reducible repeat (first | refine blk_drewN ?_ _ | refine blk_drew ?_ | refine blk_alloc ?_ _)); refine blk_put (cs := #[.int .i32 0, .int .u32 0]) ?_ 0 _ rfl; (with_reducible repeat (first | refine blk_drewN ?_ _ | refine blk_drew ?_ | refine blk_alloc ?_ _)); exact BK161.out) hb); have n3_ := Aside0.mk (below_step (by repeat (first | (with_reducible first | exact HB.out | apply below_alloc | apply pw_below_drewN | apply below_drew1 | refine below_set ?_ GE161.out) | exact HB.out)) hb); clear HO_3; clear BK161; clear HB; have HO_3 := n0_; have HO164 := n1_; have BK161 := n2_; have HB := n3_; clear n0_ n1_ n2_ n3_; (try clear hb); (try clear hb2); (try clear hk); (try clear hi); (try clear ho0); obtain ⟨Ao11, co11, eo11⟩ := Kd.R_slice HO164.out; subst eo11) | ((with_reducible refine gate_builtin (b := .append) (xs := #[.tmp 12, .tmp 14]) rfl ?_); at_builtin; refine Kd.R_append_rows (Kd.int .u8) (w0 := w) w.heap.size rfl (.tmp 12) (.tmp 14) 70 5 (.int .u8 0) 1 rfl Try.underlying70 info5 rfl (by decide) (by omega) u3 x3_1 t162 _ _ _ (fun k_ => some k_ ≠ (.slice Ao11 t162.length co11 : Value).ownBlock) (fun _ => False) rfl rfl ?aO ?aR (fun _ _ h => h) (fun _ h => h.elim) ?aF ?aB ?aS ?aL ?_; (case aR => repeat (first | exact (Kd.R_reads' HO164.out).2.2 | (with_reducible refine Kd.C_alloc ?_ _) | (with_reducible refine Kd.C_drewN ?_ _) | (with_reducible refine Kd.C_drew ?_))); (case aB => exact (by repeat (first | (with_reducible first | exact HB.out | apply below_alloc | apply pw_below_drewN | apply below_drew1 | refine below_set ?_ GE161.out) | exact HB.out))); (case aF => exact (fun k_ hk => Kd.fresh' (Kd.R_lt (by (with_reducible repeat (first | apply Kd.R_alloc | apply Kd.R_drewN | apply Kd.R_drew)); exact HO164.out)) k_ hk)); (case aO => exact (by (with_reducible repeat (first | apply Kd.R_alloc | apply Kd.R_drewN | apply Kd.R_drew)); exact Kd.R_mono HO_3.out (fun _ hk => hk.2))); (case aS => exact (below_size (by repeat (first | (with_reducible first | exact HB.out | apply below_alloc | apply pw_below_drewN | apply below_drew1 | refine below_set ?_ GE161.out) | exact HB.out)))); (case aL => have := LMc6.out; omega); intro v166 w10 ho hb hg hat; rw [← Ny165.out] at ho; have n0_ := Aside0.mk (blk_grown (g := gb161) (o := .cells #[.int .i32 ((rd_T52 l0 x8_1).f0), .int .u32 ((rd_T52 l0 x8_1).f1)] 52 (0, 0)) (by (with_reducible repeat (first | refine blk_drewN ?_ _ | refine blk_drew ?_ | refine blk_alloc ?_ _)); exact BK161.out) hg (Kd.R_ne HO_3.out BK161.out (by decide))); have n1_ := Aside0.mk (Kd.R_after (ok := (fun _ => True)) (by (with_reducible repeat (first | apply Kd.R_alloc | apply Kd.R_drewN | apply Kd.R_drew)); exact HO164.out) hg hat); have n2_ := Aside0.mk (hb); have n3_ := Aside0.mk (ho); clear BK161; clear HO164; clear HB; clear HO_3; have BK161 := n0_; have HO164 := n1_; have HB := n2_; have HO167 := n3_; clear n0_ n1_ n2_ n3_; clear ho hb hg hat))
              go_roundg k1
              case measure => have := HK1.out; omega
              case rel => exact ⟨(y165), (wrap64 (x8_1 + 1)), (by first | rfl | (simp; done) | (simp [*]; done)), H', ⟨by have := HK1.out; omega⟩, ⟨by (with_reducible repeat (first | apply Kd.R_alloc | apply Kd.R_drewN | apply Kd.R_drew)); exact Kd.R_mono HO167.out (fun _ hk => trivial)⟩, ⟨by repeat (first | (with_reducible first | exact HB.out | apply below_alloc | apply pw_below_drewN | apply below_drew1 | refine below_set ?_ GE161.out) | exact HB.out)⟩⟩
            · rw [if_neg c6] at H
              exact absurd H (by simp)
          · rw [if_neg c4] at H
            exact absurd H (by simp)
        · rw [if_neg c3] at H
          exact absurd H (by simp)
      · rw [if_neg c2] at H
        have c2b0 : decide (x8_1 < (l0.length : Int)) = false := decide_eq_false c2
        clear c2
        replace H := Option.bind_eq_some_iff.mp H
        obtain ⟨t168, A120, H⟩ := H
        replace H : (some t168) = some r := H
        have A12 := Aside0.mk A120
        clear A120
        obtain rfl := Option.some.inj H
        obtain ⟨Ao13, co13, eo13⟩ := Kd.R_slice HO_3.out
        subst eo13
        go_wp2_with (first | ((with_reducible refine gate_callee (f := 39) rfl ?_); refine goesL_ (some 18) rfl rfl Try.func39 (by kernel_rfl) rfl #[.slice Ao13 x3_1.length co13] rfl (by (try simp only [List.map_toArray, List.map_cons, List.map_nil]); first | done | rfl | (simp only [List.length_drop, List.length_take]; rfl)) ?_; (with_reducible refine (hoodwinkref02_Sum.calls k1 _ _ x3_1 t168 _ ?side1 ?side2 A12.out).mono ?_); (case side1 => repeat (first | exact (Kd.R_reads' HO_3.out).2.2 | (with_reducible refine Kd.C_alloc ?_ _) | (with_reducible refine Kd.C_drewN ?_ _) | (with_reducible refine Kd.C_drew ?_))); (case side2 => exact (Kd.R_reads' HO_3.out).2.1); rintro e w' ⟨rfl, ⟨nd, rfl⟩⟩; refine ⟨_, rfl, ?_⟩))
        go_ret
        exact ⟨by first | rfl | (simp [errW_none, errW_some] <;> rfl) | (simp [*, errW_none, errW_some] <;> rfl), by repeat (first | (with_reducible first | exact HB.out | apply below_alloc | apply pw_below_drewN | apply below_drew1) | exact HB.out)⟩

/-! ### hoodwinkref06_Labels: function 30 -/
def hoodwinkref06_Labels.l0 : Nat → List Int → List (S52) → Int → Int → Option (Int)
  | 0, _, _, _, _ => none
  | k + 1, x3, x6, x7, x8 => if x8 < x7 then (if 0 ≤ x8 then (if x8 < (x6.length : Int) then ((hoodwinkref01_Low.f k (IntKind.u64.wrap ((rd_T52 x6 x8).f1)) 4).bind fun t171 => (if x3.length + t171.length < 140737488355328 then (hoodwinkref06_Labels.l0 k (x3 ++ t171) x6 x7 (wrap64 (x8 + 1))) else (none))) else (none)) else (none)) else ((hoodwinkref02_Sum.f k x3).bind fun t177 => (some t177))
def hoodwinkref06_Labels.f (k : Nat) (l0 : List (S52)) : Option (Int) := hoodwinkref06_Labels.l0 k ([] : List Int) l0 (l0.length : Int) 0
theorem hoodwinkref06_Labels.mono_l : ∀ k, (∀ y0 y1 y2 y3, LeO (hoodwinkref06_Labels.l0 k y0 y1 y2 y3) (hoodwinkref06_Labels.l0 (k + 1) y0 y1 y2 y3))
  | 0 => fun _ _ _ _ r h => by simp [hoodwinkref06_Labels.l0] at h
  | k + 1 => by
    have ih0 := hoodwinkref06_Labels.mono_l k
    · intro y0 y1 y2 y3
      unfold hoodwinkref06_Labels.l0
      repeat' first
      | (with_reducible exact ih0 _ _ _ _)
      | (with_reducible exact hoodwinkref01_Low.mono _ _ _)
      | (with_reducible exact hoodwinkref02_Sum.mono _ _)
      | (with_reducible exact LeO.refl _)
      | (with_reducible exact LeO.none _)
      | (with_reducible refine LeO.ite ?_ ?_)
      | (with_reducible refine LeO.bind ?_ (fun _ => ?_))
      | exact ih0 _ _ _ _
      | exact hoodwinkref01_Low.mono _ _ _
      | exact hoodwinkref02_Sum.mono _ _
      | exact LeO.none _
      | refine LeO.ite ?_ ?_
      | refine LeO.bind ?_ (fun _ => ?_)
theorem hoodwinkref06_Labels.mono : ∀ a0 k, LeO (hoodwinkref06_Labels.f k a0) (hoodwinkref06_Labels.f (k + 1) a0) := by
  intro a0 k
  have ih0 := hoodwinkref06_Labels.mono_l k
  unfold hoodwinkref06_Labels.f
  repeat' first
      | (with_reducible exact ih0 _ _ _ _)
      | (with_reducible exact hoodwinkref01_Low.mono _ _ _)
      | (with_reducible exact hoodwinkref02_Sum.mono _ _)
      | (with_reducible exact LeO.refl _)
      | (with_reducible exact LeO.none _)
      | (with_reducible refine LeO.ite ?_ ?_)
      | (with_reducible refine LeO.bind ?_ (fun _ => ?_))
      | exact ih0 _ _ _ _
      | exact hoodwinkref01_Low.mono _ _ _
      | exact hoodwinkref02_Sum.mono _ _
      | exact LeO.none _
      | refine LeO.ite ?_ ?_
      | refine LeO.bind ?_ (fun _ => ?_)
set_option maxHeartbeats 8000000 in
set_option maxRecDepth 100000 in
theorem hoodwinkref06_Labels.calls (k : Nat) (A0 : Option Addr) (c0 : Nat) (l0 : List (S52)) (r : Int) (w : World) (hr0 : Kd.C k52 w A0 l0.length l0) (hc0 : l0.length ≤ c0) (h : hoodwinkref06_Labels.f k l0 = some r) :
    Calls Try.prog 30 #[.slice A0 l0.length c0] w fun e w' => e = .returned (.int .u32 r) ∧ Below w.heap.size w w' := by
  have hu52 := Try.underlying52
  have HR0 := Aside0.mk hr0
  have HC0 := Aside0.mk hc0
  clear hr0 hc0
  have HB := Aside0.mk (Below.refl w.heap.size w)
  have H : (hoodwinkref06_Labels.l0 k ([] : List Int) l0 (l0.length : Int) 0) = some r := h
  clear h
  have H' := Aside0.mk H
  clear H
  go_enter Try.func30, Try.ntmps30
  go_wp2
  go_loopg [3, 8] k (fun kq v3 v8 w' => ∃ (x3_1 : List Int) (x8_1 : Int), v8 = .int .i64 x8_1 ∧ Aside0 (hoodwinkref06_Labels.l0 kq x3_1 l0 (l0.length : Int) x8_1 = some r) ∧ Aside0 (kq ≤ k) ∧ Aside0 (Kd.R (Kd.int .u8) 5 w' w.heap.size (fun _ => True) v3 x3_1) ∧ Aside0 (Below w.heap.size w w'))
  case atStart => exact ⟨(([] : List Int)), (0), (by first | rfl | (simp; done) | (simp [*]; done)), H', ⟨Nat.le_refl _⟩, ⟨by first | exact Kd.R_nil _ _ _ _ _ | exact Kd.N_nil _ _ _ _ _ | exact Kd.V_nil _ _ _ _ _ | exact Kd.Q_nil _ _ _ _ _ | exact Kd.S_nil _ _ _ _ _⟩, ⟨by repeat (first | (with_reducible first | exact HB.out | apply below_alloc | apply pw_below_drewN | apply below_drew1) | exact HB.out)⟩⟩
  case round =>
    clear H'
    obtain ⟨x3_1, x8_1, rfl, HA, HK1, HO_3, HB⟩ := hrel
    cases gk with
    | zero => exact absurd HA.out (by simp [hoodwinkref06_Labels.l0])
    | succ k1 =>
      have H := HA.out
      clear HA
      simp only [hoodwinkref06_Labels.l0] at H
      by_cases c2 : x8_1 < (l0.length : Int)
      · rw [if_pos c2] at H
        have c2b0 : decide (x8_1 < (l0.length : Int)) = true := decide_eq_true c2
        clear c2
        by_cases c3 : 0 ≤ x8_1
        · rw [if_pos c3] at H
          have c3b0 : decide (0 ≤ x8_1) = true := decide_eq_true c3
          clear c3
          by_cases c4 : x8_1 < (l0.length : Int)
          · rw [if_pos c4] at H
            have c4b0 : decide (x8_1 < (l0.length : Int)) = true := decide_eq_true c4
            clear c4
            replace H := Option.bind_eq_some_iff.mp H
            obtain ⟨t171, A50, H⟩ := H
            replace H : (if x3_1.length + t171.length < 140737488355328 then (hoodwinkref06_Labels.l0 k1 (x3_1 ++ t171) l0 (l0.length : Int) (wrap64 (x8_1 + 1))) else (none)) = some r := H
            have A5 := Aside0.mk A50
            clear A50
            by_cases c6 : x3_1.length + t171.length < 140737488355328
            · rw [if_pos c6] at H
              have LMc6 := Aside0.mk c6
              clear c6
              obtain ⟨y174, hy174⟩ : ∃ y_ : List Int, y_ = (x3_1 ++ t171) := ⟨_, rfl⟩
              replace H : (hoodwinkref06_Labels.l0 k1 y174 l0 (l0.length : Int) (wrap64 (x8_1 + 1))) = some r := by first | (rw [hy174]; with_reducible exact H) | (have H2_ := (Option.bind_some _ _).symm.trans H; rw [hy174]; with_reducible exact H2_) | (have H2_ := (Option.bind_some _ _).symm.trans H; with_reducible exact H2_) | with_reducible exact H | (rw [hy174]; exact H) | exact H
              have Ny174 := Aside0.mk hy174
              clear hy174
              have H' := Aside0.mk H
              clear H
              have p169 : 0 ≤ (x8_1 : Int) := of_decide_eq_true (by first | (with_reducible assumption) | assumption)
              have q169 : x8_1 < (l0.length : Int) := of_decide_eq_true (by first | (with_reducible assumption) | assumption)
              obtain ⟨ad169, e169, hx169_0, hx169_1⟩ := at_T52 HR0.out x8_1 p169 q169
              cases e169
              replace hx169_0 := (HB.out.cell (World.block_lt_of_cell? w _ hx169_0)).trans hx169_0
              replace hx169_1 := (HB.out.cell (World.block_lt_of_cell? w _ hx169_1)).trans hx169_1
              replace p169 := eq_true p169
              replace q169 := eq_true q169
              go_wp2_with (first | ((with_reducible refine gate_dst (N := 5) rfl ?_); refine box_event ?hg (N := 5) ?hd (cs := #[.int .i32 0, .int .u32 0]) (t := 52) ?hr ?_; (case hd => rfl); (case hg => rfl); (case hr => first | (go_simp; done) | (go_simp; rfl)); intro gb170 hg w7 hbox hb; have n0_ := Aside0.mk (Kd.R_below (by (with_reducible repeat (first | apply Kd.R_alloc | apply Kd.R_drewN | apply Kd.R_drew)); exact HO_3.out) hb); have n1_ := Aside0.mk (below_step (by repeat (first | (with_reducible first | exact HB.out | apply below_alloc | apply pw_below_drewN | apply below_drew1) | exact HB.out)) hb); have n2_ := Aside0.mk (hbox); have n3_ := Aside0.mk ((by rw [hg]; exact (below_size (by repeat (first | (with_reducible first | exact HB.out | apply below_alloc | apply pw_below_drewN | apply below_drew1) | exact HB.out))) : w.heap.size ≤ gb170)); have n4_ := Aside0.mk ((by rw [hg]; exact (below_size (by repeat (first | (with_reducible first | exact HB.out | apply below_alloc | apply pw_below_drewN | apply below_drew1) | exact HB.out))) : w.heap.size ≤ gb170)); clear HO_3; clear HB; have HO_3 := n0_; have HB := n1_; have BK170 := n2_; have GW170 := n3_; have GE170 := n4_; clear n0_ n1_ n2_ n3_ n4_; clear hb hbox hg; have hcz8_0 : w7.cell? ⟨gb170, 0, none⟩ = some (.int .i32 0) := (blk_cell BK170.out 0).trans rfl; have hcz8_1 : w7.cell? ⟨gb170, 1, none⟩ = some (.int .u32 0) := (blk_cell BK170.out 1).trans rfl; have hfz8_0 := blk_frozen BK170.out 0; have hfz8_1 := blk_frozen BK170.out 1) | ((with_reducible refine gate_callee (f := 40) rfl ?_); refine goesL_ (some 16) rfl rfl Try.func40 (by kernel_rfl) rfl #[.int .u64 (IntKind.u64.wrap ((rd_T52 l0 x8_1).f1)), .int .i64 4] rfl (by (try simp only [List.map_toArray, List.map_cons, List.map_nil]); first | done | rfl | (simp only [List.length_drop, List.length_take]; rfl)) ?_; (with_reducible refine (hoodwinkref01_Low.calls k1 (IntKind.u64.wrap ((rd_T52 l0 x8_1).f1)) 4 t171 _ A5.out).mono ?_); rintro e w9 ⟨v172, rfl, ho0, hb⟩; refine ⟨_, rfl, ?_⟩; have n0_ := Aside0.mk (Kd.R_elder' (by (with_reducible repeat (first | apply Kd.R_alloc | apply Kd.R_drewN | apply Kd.R_drew)); exact (Kd.R_mono (Kd.R_far (p := ⟨gb170, 1, none⟩) (Kd.R_far (p := ⟨gb170, 0, none⟩) (Kd.R_types HO_3.out BK170.out (by decide)) (fun _ hk => hk.2) (.int .i32 ((rd_T52 l0 x8_1).f0))) (fun _ hk => hk.2) (.int .u32 ((rd_T52 l0 x8_1).f1))) (fun _ h_ => h_.1))) (Kd.R_base ho0) hb); have n1_ := Aside0.mk (Kd.R_lower (Kd.R_new' ho0 (Kd.R_lt (by (with_reducible repeat (first | apply Kd.R_alloc | apply Kd.R_drewN | apply Kd.R_drew)); exact (Kd.R_mono (Kd.R_far (p := ⟨gb170, 1, none⟩) (Kd.R_far (p := ⟨gb170, 0, none⟩) (Kd.R_types HO_3.out BK170.out (by decide)) (fun _ hk => hk.2) (.int .i32 ((rd_T52 l0 x8_1).f0))) (fun _ hk => hk.2) (.int .u32 ((rd_T52 l0 x8_1).f1))) (fun _ h_ => h_.1))))) (below_size (by repeat (first | (with_reducible first | exact HB.out | apply below_alloc | apply pw_below_drewN | apply below_drew1 | refine below_set ?_ GE170.out) | exact HB.out)))); have n2_ := Aside0.mk (blk_below (g := gb170) (o := .cells #[.int .i32 ((rd_T52 l0 x8_1).f0), .int .u32 ((rd_T52 l0 x8_1).f1)] 52 (0, 0)) (by (with_reducible repeat (first | refine blk_drewN ?_ _ | refine blk_drew ?_ | refine blk_alloc ?_ _)); refine blk_put (cs := #[.int .i32 ((rd_T52 l0 x8_1).f0), .int .u32 0]) ?_ 1 _ rfl; (with_reducible repeat (first | refine blk_drewN ?_ _ | refine blk_drew ?_ | refine blk_alloc ?_ _)); refine blk_put (cs := #[.int .i32 0, .int .u32 0]) ?_ 0 _ rfl; (with_reducible repeat (first | refine blk_drewN ?_ _ | refine blk_drew ?_ | refine blk_alloc ?_ _)); exact BK170.out) hb); have n3_ := Aside0.mk (below_step (by repeat (first | (with_reducible first | exact HB.out | apply below_alloc | apply pw_below_drewN | apply below_drew1 | refine below_set ?_ GE170.out) | exact HB.out)) hb); clear HO_3; clear BK170; clear HB; have HO_3 := n0_; have HO173 := n1_; have BK170 := n2_; have HB := n3_; clear n0_ n1_ n2_ n3_; (try clear hb); (try clear hb2); (try clear hk); (try clear hi); (try clear ho0); obtain ⟨Ao11, co11, eo11⟩ := Kd.R_slice HO173.out; subst eo11) | ((with_reducible refine gate_builtin (b := .append) (xs := #[.tmp 12, .tmp 16]) rfl ?_); at_builtin; refine Kd.R_append_rows (Kd.int .u8) (w0 := w) w.heap.size rfl (.tmp 12) (.tmp 16) 70 5 (.int .u8 0) 1 rfl Try.underlying70 info5 rfl (by decide) (by omega) u3 x3_1 t171 _ _ _ (fun k_ => some k_ ≠ (.slice Ao11 t171.length co11 : Value).ownBlock) (fun _ => False) rfl rfl ?aO ?aR (fun _ _ h => h) (fun _ h => h.elim) ?aF ?aB ?aS ?aL ?_; (case aR => repeat (first | exact (Kd.R_reads' HO173.out).2.2 | (with_reducible refine Kd.C_alloc ?_ _) | (with_reducible refine Kd.C_drewN ?_ _) | (with_reducible refine Kd.C_drew ?_))); (case aB => exact (by repeat (first | (with_reducible first | exact HB.out | apply below_alloc | apply pw_below_drewN | apply below_drew1 | refine below_set ?_ GE170.out) | exact HB.out))); (case aF => exact (fun k_ hk => Kd.fresh' (Kd.R_lt (by (with_reducible repeat (first | apply Kd.R_alloc | apply Kd.R_drewN | apply Kd.R_drew)); exact HO173.out)) k_ hk)); (case aO => exact (by (with_reducible repeat (first | apply Kd.R_alloc | apply Kd.R_drewN | apply Kd.R_drew)); exact Kd.R_mono HO_3.out (fun _ hk => hk.2))); (case aS => exact (below_size (by repeat (first | (with_reducible first | exact HB.out | apply below_alloc | apply pw_below_drewN | apply below_drew1 | refine below_set ?_ GE170.out) | exact HB.out)))); (case aL => have := LMc6.out; omega); intro v175 w10 ho hb hg hat; rw [← Ny174.out] at ho; have n0_ := Aside0.mk (blk_grown (g := gb170) (o := .cells #[.int .i32 ((rd_T52 l0 x8_1).f0), .int .u32 ((rd_T52 l0 x8_1).f1)] 52 (0, 0)) (by (with_reducible repeat (first | refine blk_drewN ?_ _ | refine blk_drew ?_ | refine blk_alloc ?_ _)); exact BK170.out) hg (Kd.R_ne HO_3.out BK170.out (by decide))); have n1_ := Aside0.mk (Kd.R_after (ok := (fun _ => True)) (by (with_reducible repeat (first | apply Kd.R_alloc | apply Kd.R_drewN | apply Kd.R_drew)); exact HO173.out) hg hat); have n2_ := Aside0.mk (hb); have n3_ := Aside0.mk (ho); clear BK170; clear HO173; clear HB; clear HO_3; have BK170 := n0_; have HO173 := n1_; have HB := n2_; have HO176 := n3_; clear n0_ n1_ n2_ n3_; clear ho hb hg hat))
              go_roundg k1
              case measure => have := HK1.out; omega
              case rel => exact ⟨(y174), (wrap64 (x8_1 + 1)), (by first | rfl | (simp; done) | (simp [*]; done)), H', ⟨by have := HK1.out; omega⟩, ⟨by (with_reducible repeat (first | apply Kd.R_alloc | apply Kd.R_drewN | apply Kd.R_drew)); exact Kd.R_mono HO176.out (fun _ hk => trivial)⟩, ⟨by repeat (first | (with_reducible first | exact HB.out | apply below_alloc | apply pw_below_drewN | apply below_drew1 | refine below_set ?_ GE170.out) | exact HB.out)⟩⟩
            · rw [if_neg c6] at H
              exact absurd H (by simp)
          · rw [if_neg c4] at H
            exact absurd H (by simp)
        · rw [if_neg c3] at H
          exact absurd H (by simp)
      · rw [if_neg c2] at H
        have c2b0 : decide (x8_1 < (l0.length : Int)) = false := decide_eq_false c2
        clear c2
        replace H := Option.bind_eq_some_iff.mp H
        obtain ⟨t177, A120, H⟩ := H
        replace H : (some t177) = some r := H
        have A12 := Aside0.mk A120
        clear A120
        obtain rfl := Option.some.inj H
        obtain ⟨Ao13, co13, eo13⟩ := Kd.R_slice HO_3.out
        subst eo13
        go_wp2_with (first | ((with_reducible refine gate_callee (f := 39) rfl ?_); refine goesL_ (some 20) rfl rfl Try.func39 (by kernel_rfl) rfl #[.slice Ao13 x3_1.length co13] rfl (by (try simp only [List.map_toArray, List.map_cons, List.map_nil]); first | done | rfl | (simp only [List.length_drop, List.length_take]; rfl)) ?_; (with_reducible refine (hoodwinkref02_Sum.calls k1 _ _ x3_1 t177 _ ?side1 ?side2 A12.out).mono ?_); (case side1 => repeat (first | exact (Kd.R_reads' HO_3.out).2.2 | (with_reducible refine Kd.C_alloc ?_ _) | (with_reducible refine Kd.C_drewN ?_ _) | (with_reducible refine Kd.C_drew ?_))); (case side2 => exact (Kd.R_reads' HO_3.out).2.1); rintro e w' ⟨rfl, ⟨nd, rfl⟩⟩; refine ⟨_, rfl, ?_⟩))
        go_ret
        exact ⟨by first | rfl | (simp [errW_none, errW_some] <;> rfl) | (simp [*, errW_none, errW_some] <;> rfl), by repeat (first | (with_reducible first | exact HB.out | apply below_alloc | apply pw_below_drewN | apply below_drew1) | exact HB.out)⟩

end Go.Proofs.Ytkjjmmgngdpppaa

namespace Go.Proofs.Ytkjjmmgngdpppaa
open Go.RowKit Go.Proofs.YtkjjmmgngdpppaaW.PrintWords Go.Proofs.YtkjjmmgngdpppaaW.PrintLast Go.Proofs.YtkjjmmgngdpppaaW.PrintMore
set_option linter.unusedVariables false
set_option linter.unusedSimpArgs false

/-! ### The step is linear -/
theorem xor_half (a b : Nat) : (a ^^^ b) / 2 = a / 2 ^^^ b / 2 := by
  have := Nat.xor_div_two_pow (a := a) (b := b) (n := 1)
  simpa using this
theorem xor_mod2 (a b : Nat) : (a ^^^ b) % 2 = (a % 2 + b % 2) % 2 := by
  have := Nat.xor_mod_two_pow (a := a) (b := b) (n := 1)
  rw [Nat.pow_one] at this
  rw [this]
  rcases Nat.mod_two_eq_zero_or_one a with h | h <;> rcases Nat.mod_two_eq_zero_or_one b with h' | h' <;> rw [h, h'] <;> rfl
theorem poly_xor (a b p : Nat) : (a ^^^ b) % 2 * p = a % 2 * p ^^^ b % 2 * p := by
  rw [xor_mod2]
  rcases Nat.mod_two_eq_zero_or_one a with h | h <;> rcases Nat.mod_two_eq_zero_or_one b with h' | h' <;> rw [h, h'] <;> simp
theorem bitN_xor (a b : Nat) : bitN (a ^^^ b) = bitN a ^^^ bitN b := by
  unfold bitN
  rw [xor_half, poly_xor]
  ac_rfl
theorem bits8_xor : ∀ (k a b : Nat), bits8 k (a ^^^ b) = bits8 k a ^^^ bits8 k b
  | 0, _, _ => rfl
  | k + 1, a, b => by show bitN _ = bitN _ ^^^ bitN _; rw [bits8_xor k, bitN_xor]
/-- No low bit is set: just a shift. -/
theorem bits8_shift : ∀ (k h : Nat), bits8 k (h * 2 ^ k) = h
  | 0, h => by simp [bits8]
  | k + 1, h => by
    have e : h * 2 ^ (k + 1) = (2 * h) * 2 ^ k := by rw [Nat.pow_succ]; ac_rfl
    show bitN (bits8 k (h * 2 ^ (k + 1))) = h
    rw [e, bits8_shift k]
    unfold bitN
    rw [show 2 * h / 2 = h by omega, show 2 * h % 2 = 0 by omega]
    simp
theorem split256 (s : Nat) : s = s / 256 * 256 ^^^ s % 256 := by
  have h := Nat.two_pow_add_eq_or_of_lt (i := 8) (b := s % 256) (by omega) (s / 256)
  have hx : s / 256 * 256 ^^^ s % 256 = s / 256 * 256 ||| s % 256 := by
    apply Nat.eq_of_testBit_eq
    intro i
    rw [Nat.testBit_xor, Nat.testBit_or, show s / 256 * 256 = 2 ^ 8 * (s / 256) by omega, Nat.testBit_two_pow_mul]
    by_cases hi : 8 ≤ i
    · rw [Nat.testBit_lt_two_pow (x := s % 256) (i := i) (Nat.lt_of_lt_of_le (by omega : s % 256 < 2 ^ 8) (Nat.pow_le_pow_right (by omega) hi))]
      simp
    · simp [hi]
  rw [hx, show s / 256 * 256 = 2 ^ 8 * (s / 256) by omega, ← h]
  omega
theorem step_table (s b : Nat) (hb : b < 256) : stepN s b = s / 256 ^^^ tab (s % 256 ^^^ b) := by
  have hl : s % 256 ^^^ b < 256 := Nat.xor_lt_two_pow (n := 8) (by omega) hb
  have ht : tab (s % 256 ^^^ b) = bits8 8 (s % 256 ^^^ b) := by rw [← tab_at hl]; unfold stepN; rw [Nat.zero_xor]
  have e : s ^^^ b = s / 256 * 2 ^ 8 ^^^ (s % 256 ^^^ b) := by
    rw [← Nat.xor_assoc]; exact congrArg (· ^^^ b) (split256 s)
  unfold stepN
  rw [e, bits8_xor, bits8_shift, ht]
theorem tstep_tab (s : Nat) (b : Int) (h0 : 0 ≤ b) (hb : b < 256) : tstep tab s b = stepN s b.toNat := by
  rw [step_table s b.toNat (by omega)]; rfl

/-! ### The reference's sum -/
/-- The reference's register behind i bits of the byte b. -/
def refB (b : Nat) : Nat → Nat → Nat
  | 0, s => s
  | i + 1, s => let r := refB b i s; if (r % 2 + b / 2 ^ i) % 2 = 1 then r / 2 ^^^ 2197175160 else r / 2
theorem refB_bits (b s : Nat) : ∀ i, refB b i s ^^^ b / 2 ^ i = bits8 i (s ^^^ b)
  | 0 => by simp [refB, bits8]
  | i + 1 => by
    have ih := refB_bits b s i
    show (if (refB b i s % 2 + b / 2 ^ i) % 2 = 1 then refB b i s / 2 ^^^ 2197175160 else refB b i s / 2) ^^^ b / 2 ^ (i + 1) = bitN (bits8 i (s ^^^ b))
    rw [← ih]
    generalize refB b i s = r
    have hd : b / 2 ^ (i + 1) = b / 2 ^ i / 2 := by rw [Nat.pow_succ, Nat.div_div_eq_div_mul]
    rw [hd]
    generalize b / 2 ^ i = c
    unfold bitN
    rw [xor_half, xor_mod2]
    by_cases h : (r % 2 + c) % 2 = 1
    · rw [if_pos h, show (r % 2 + c % 2) % 2 = 1 by omega, Nat.one_mul]; ac_rfl
    · rw [if_neg h, show (r % 2 + c % 2) % 2 = 0 by omega, Nat.zero_mul, Nat.xor_zero]
theorem refB_step (b s : Nat) (hb : b < 256) : refB b 8 s = stepN s b := by
  have := refB_bits b s 8
  rw [show b / 2 ^ 8 = 0 by omega, Nat.xor_zero] at this
  exact this
theorem refB_lt {b : Nat} : ∀ (i : Nat) {s : Nat}, s < 4294967296 → refB b i s < 4294967296
  | 0, _, h => h
  | i + 1, s, h => by
    have := refB_lt (b := b) i h
    show (if (refB b i s % 2 + b / 2 ^ i) % 2 = 1 then refB b i s / 2 ^^^ 2197175160 else refB b i s / 2) < 4294967296
    split
    · exact Nat.xor_lt_two_pow (n := 32) (by omega) (by omega)
    · omega

theorem u64w {n : Int} (h : 0 ≤ n ∧ n ≤ 18446744073709551615) : IntKind.u64.wrap n = n := IntWalk.u64_in n h
theorem shr_u64 (b i : Nat) (hb : b < 256) (hi : i ≤ 64) : shr .u64 (IntKind.u64.wrap (b : Int)) (i : Int) = ((b / 2 ^ i : Nat) : Int) := by
  rw [u64w (by omega)]
  show (b : Int) / 2 ^ (min ((i : Int)).toNat 64) = _
  rw [Int.toNat_natCast, Nat.min_eq_left hi]
  push_cast; rfl
theorem refsum_l1 (l : List Int) (b s : Nat) (hb : b < 256) (hs : s < 4294967296) (x10 : Int) : ∀ (d k i : Nat), i + d = 8 →
    hoodwinkref02_Sum.l1 (k + d + 1) (refB b i s : Nat) (b : Int) (i : Int) l (l.length : Int) x10 = hoodwinkref02_Sum.l0 k (refB b 8 s : Nat) l (l.length : Int) (wrap64 (x10 + 1))
  | 0, k, i, hi => by
    obtain rfl : i = 8 := by omega
    simp only [hoodwinkref02_Sum.l1]
    rw [if_neg (by omega)]
  | d + 1, k, i, hi => by
    have ih := refsum_l1 l b s hb hs x10 d k (i + 1) (by omega)
    have hr := refB_lt (b := b) i hs
    have hq : b / 2 ^ i < 256 := Nat.lt_of_le_of_lt (Nat.div_le_self _ _) hb
    show hoodwinkref02_Sum.l1 (k + d + 1 + 1) _ _ _ _ _ _ = _
    rw [hoodwinkref02_Sum.l1]
    rw [if_pos (by omega), if_pos (by omega), shr_u64 b i hb (by omega), next64 (by omega)]
    have e : refB b (i + 1) s = if (refB b i s % 2 + b / 2 ^ i) % 2 = 1 then refB b i s / 2 ^^^ 2197175160 else refB b i s / 2 := rfl
    rw [← ih, e]
    generalize refB b i s = r at *
    generalize b / 2 ^ i = c at *
    have h2 : Int.tmod (r : Int) 2 = ((r % 2 : Nat) : Int) := by rw [Int.tmod_eq_emod_of_nonneg (by omega)]; rfl
    have h3 : Int.tdiv (r : Int) 2 = ((r / 2 : Nat) : Int) := by rw [Int.tdiv_eq_ediv_of_nonneg (by omega)]; rfl
    rw [h2, h3, u64w (by omega), Int.tmod_eq_emod_of_nonneg (by omega), u64w (by omega)]
    by_cases h : (r % 2 + c) % 2 = 1
    · rw [if_pos (by omega), if_pos h]
      have hx : bits .xor .u64 ((r / 2 : Nat) : Int) 2197175160 = ((r / 2 ^^^ 2197175160 : Nat) : Int) := u64_xor_nat (r / 2) 2197175160 (by omega) (by omega)
      rw [hx]
    · rw [if_neg (by omega), if_neg h]
/-- Bytes' steps, one by one. -/
def steps (s : Nat) (l : List Int) : Nat := l.foldl (fun s b => stepN s b.toNat) s
theorem stepN_lt {s b : Nat} (hs : s < 4294967296) (hb : b < 256) : stepN s b < 4294967296 := bits8_lt 8 (Nat.xor_lt_two_pow (n := 32) (by omega) (by omega))
theorem steps_lt : ∀ {l : List Int} {s : Nat}, Bytes l → s < 4294967296 → steps s l < 4294967296
  | [], _, _, hs => hs
  | b :: l, s, hb, hs => steps_lt (l := l) (fun x hx => hb x (List.mem_cons_of_mem _ hx)) (stepN_lt hs (by have := hb b List.mem_cons_self; omega))
theorem steps_snoc (s : Nat) (a : List Int) (b : Int) : steps s (a ++ [b]) = stepN (steps s a) b.toNat := by simp [steps, List.foldl_append]
theorem tsum_steps : ∀ {l : List Int} {s : Nat}, Bytes l → tsum tab s l = steps s l
  | [], _, _ => rfl
  | b :: l, s, hb => by
    have h := hb b List.mem_cons_self
    show tsum tab (tstep tab s b) l = steps (stepN s b.toNat) l
    rw [tstep_tab s b h.1 h.2, tsum_steps (fun x hx => hb x (List.mem_cons_of_mem _ hx))]
theorem refsum_l0 (l : List Int) (hb : Bytes l) (hl : l.length < 9223372036854775807) : ∀ (d i : Nat) (s : Nat), i + d = l.length → s < 4294967296 →
    hoodwinkref02_Sum.l0 (10 * d + 1) (s : Int) l (l.length : Int) (i : Int) = some ((4294967295 - steps s (l.drop i) : Nat) : Int)
  | 0, i, s, hi, hs => by
    show hoodwinkref02_Sum.l0 (0 + 1) _ _ _ _ = _
    rw [hoodwinkref02_Sum.l0]
    rw [if_neg (by omega), List.drop_of_length_le (by omega), u64w (by omega)]
    show some _ = some ((4294967295 - s : Nat) : Int)
    congr 1; omega
  | d + 1, i, s, hi, hs => by
    have hil : i < l.length := by omega
    obtain ⟨b, hbe, hbl⟩ := hb.nat hil
    have hst := stepN_lt hs hbl
    have ih := refsum_l0 l hb hl d (i + 1) (stepN s b) (by omega) hst
    have h1 := refsum_l1 l b s hbl hs (i : Int) 8 (10 * d + 1) 0 (by omega)
    have e : l.drop i = (b : Int) :: l.drop (i + 1) := by rw [List.drop_eq_getElem_cons hil, hbe]
    rw [show 10 * (d + 1) + 1 = (10 * d + 1 + 8 + 1) + 1 by omega, hoodwinkref02_Sum.l0]
    rw [if_pos (by omega), if_pos (by omega), if_pos (by omega), rd_getElem hil, hbe]
    have h2 : hoodwinkref02_Sum.l1 (10 * d + 1 + 8 + 1) (s : Int) (b : Int) 0 l (l.length : Int) (i : Int) = _ := h1
    rw [h2, refB_step b s hbl, next64 (by omega), ih, e]
    rfl
theorem refsum_f (l : List Int) (hb : Bytes l) (hl : l.length < 9223372036854775807) : hoodwinkref02_Sum.f (10 * l.length + 1) l = some (sumN tab l : Nat) := by
  have := refsum_l0 l hb hl l.length 0 4294967295 (by omega) (by omega)
  unfold sumN
  rw [tsum_steps hb]
  simpa [hoodwinkref02_Sum.f] using this
theorem refsum_any (A : Option Addr) (n c : Nat) (l : List Int) (w : World) (hr : (Kd.int .u8).C w A n l) (hc : n ≤ c) (hb : Bytes l) (hl : n < 9223372036854775807) :
    Calls Try.prog 39 #[.slice A n c] w fun e w' => e = .returned (.int .u32 (sumN tab l : Nat)) ∧ Drawn0 w w' := by
  obtain rfl := hr.1
  exact hoodwinkref02_Sum.calls (10 * l.length + 1) A c l _ w hr hc (refsum_f l hb hl)

end Go.Proofs.Ytkjjmmgngdpppaa

namespace Go.Proofs.Ytkjjmmgngdpppaa
open Go.RowKit
set_option linter.unusedVariables false
theorem eq_of_xor {a b : Nat} (h : a ^^^ b = 0) : a = b := by
  have : a ^^^ b ^^^ b = b := by rw [h, Nat.zero_xor]
  rwa [Nat.xor_assoc, Nat.xor_self, Nat.xor_zero] at this
theorem bitN_zero {x : Nat} (hx : x < 4294967296) (h : bitN x = 0) : x = 0 := by
  unfold bitN at h
  have e : x / 2 = x % 2 * 2197175160 := eq_of_xor h
  omega
theorem bits8_zero : ∀ (k : Nat) {x : Nat}, x < 4294967296 → bits8 k x = 0 → x = 0
  | 0, _, _, h => h
  | k + 1, x, hx, h => bits8_zero k hx (bitN_zero (bits8_lt k hx) h)
theorem stepN_inj_reg {s t b : Nat} (hs : s < 4294967296) (ht : t < 4294967296) (h : stepN s b = stepN t b) : s = t := by
  unfold stepN at h
  have h2 : bits8 8 ((s ^^^ b) ^^^ (t ^^^ b)) = 0 := by rw [bits8_xor, h, Nat.xor_self]
  have e : (s ^^^ b) ^^^ (t ^^^ b) = s ^^^ t := by
    rw [Nat.xor_comm t b, Nat.xor_assoc, ← Nat.xor_assoc b b t, Nat.xor_self, Nat.zero_xor]
  rw [e] at h2
  exact eq_of_xor (bits8_zero 8 (Nat.xor_lt_two_pow (n := 32) (by omega) (by omega)) h2)
theorem stepN_inj_byte {s a b : Nat} (ha : a < 256) (hb : b < 256) (h : stepN s a = stepN s b) : a = b := by
  unfold stepN at h
  have h2 : bits8 8 ((s ^^^ a) ^^^ (s ^^^ b)) = 0 := by rw [bits8_xor, h, Nat.xor_self]
  have e : (s ^^^ a) ^^^ (s ^^^ b) = a ^^^ b := by
    rw [Nat.xor_comm s a, Nat.xor_assoc, ← Nat.xor_assoc s s b, Nat.xor_self, Nat.zero_xor]
  rw [e] at h2
  exact eq_of_xor (bits8_zero 8 (Nat.xor_lt_two_pow (n := 32) (by omega) (by omega)) h2)
theorem steps_append (s : Nat) (a b : List Int) : steps s (a ++ b) = steps (steps s a) b := by simp [steps, List.foldl_append]
theorem steps_inj : ∀ {l : List Int} {s t : Nat}, Bytes l → s < 4294967296 → t < 4294967296 → steps s l = steps t l → s = t
  | [], _, _, _, _, _, h => h
  | b :: l, s, t, hb, hs, ht, h => by
    have h0 := hb b List.mem_cons_self
    have h1 := steps_inj (l := l) (fun x hx => hb x (List.mem_cons_of_mem _ hx)) (stepN_lt hs (by omega)) (stepN_lt ht (by omega)) h
    exact stepN_inj_reg hs ht h1
/-- One byte turned: another sum. -/
theorem sumN_set {l : List Int} (hb : Bytes l) {i : Nat} (hi : i < l.length) {x : Int} (hx : 0 ≤ x ∧ x < 256) : sumN tab (l.set i x) = sumN tab l ↔ x = l[i] := by
  have hset : l.set i x = l.take i ++ x :: l.drop (i + 1) := by rw [List.set_eq_take_append_cons_drop, if_pos hi]
  have hl : l = l.take i ++ l[i] :: l.drop (i + 1) := by rw [← List.drop_eq_getElem_cons hi, List.take_append_drop]
  constructor
  · intro h
    have hb' : Bytes (l.set i x) := fun y hy => by
      rcases List.mem_or_eq_of_mem_set hy with h | h
      · exact hb y h
      · rw [h]; exact hx
    unfold sumN at h
    rw [tsum_steps hb, tsum_steps hb'] at h
    have h1 := steps_lt hb (by omega : (4294967295 : Nat) < 4294967296)
    have h2 := steps_lt hb' (by omega : (4294967295 : Nat) < 4294967296)
    have h3 : steps 4294967295 (l.set i x) = steps 4294967295 l := by omega
    have hi2 := hb _ (List.getElem_mem hi)
    have hs := steps_lt (hb.take i) (by omega : (4294967295 : Nat) < 4294967296)
    rw [hset] at h3
    rw [show steps 4294967295 l = steps 4294967295 (l.take i ++ l[i] :: l.drop (i + 1)) from congrArg _ hl] at h3
    rw [steps_append, steps_append] at h3
    have h4 := steps_inj (hb.drop (i + 1)) (stepN_lt hs (by omega)) (stepN_lt hs (by omega)) h3
    have h5 := stepN_inj_byte (by omega) (by omega) h4
    omega
  · intro h
    rw [h, List.set_getElem_self]
end Go.Proofs.Ytkjjmmgngdpppaa

namespace Go.Proofs.Ytkjjmmgngdpppaa
open Go.RowKit Go.Proofs.YtkjjmmgngdpppaaW.PrintWords Go.Proofs.YtkjjmmgngdpppaaW.PrintLast Go.Proofs.YtkjjmmgngdpppaaW.PrintMore
set_option linter.unusedVariables false
set_option linter.unusedSimpArgs false

/-- What bytes tell, the lowest first. -/
def valN : List Int → Nat
  | [] => 0
  | b :: l => b.toNat + 256 * valN l
theorem valN_lt : ∀ {l : List Int}, Bytes l → valN l < 256 ^ l.length
  | [], _ => by simp [valN]
  | b :: l, hb => by
    have h1 := valN_lt (l := l) (fun x hx => hb x (List.mem_cons_of_mem _ hx))
    have h2 := hb b List.mem_cons_self
    show b.toNat + 256 * valN l < 256 ^ (l.length + 1)
    rw [Nat.pow_succ]
    omega
theorem bits8_add : ∀ (j k x : Nat), bits8 (j + k) x = bits8 j (bits8 k x)
  | 0, k, x => by rw [Nat.zero_add]; rfl
  | j + 1, k, x => by rw [show j + 1 + k = (j + k) + 1 by omega]; show bitN _ = bitN _; rw [bits8_add j k x]
theorem mul_xor_add (b V : Nat) (hb : b < 256) : b + 256 * V = b ^^^ V * 2 ^ 8 := by
  have h := split256 (b + 256 * V)
  rw [show (b + 256 * V) / 256 = V by omega, show (b + 256 * V) % 256 = b by omega] at h
  rw [h, Nat.xor_comm]
theorem steps_val : ∀ {l : List Int} {s : Nat}, Bytes l → steps s l = bits8 (8 * l.length) (s ^^^ valN l)
  | [], s, _ => by show s = bits8 0 (s ^^^ 0); rw [Nat.xor_zero]; rfl
  | b :: l, s, hb => by
    have h0 := hb b List.mem_cons_self
    have ih := steps_val (l := l) (s := stepN s b.toNat) (fun x hx => hb x (List.mem_cons_of_mem _ hx))
    show steps (stepN s b.toNat) l = bits8 (8 * (l.length + 1)) (s ^^^ (b.toNat + 256 * valN l))
    rw [ih, show 8 * (l.length + 1) = 8 * l.length + 8 by omega, bits8_add, mul_xor_add _ _ (by omega), ← Nat.xor_assoc, bits8_xor 8 (s ^^^ b.toNat), bits8_shift]
    rfl
theorem valN_inj : ∀ {x y : List Int}, Bytes x → Bytes y → x.length = y.length → valN x = valN y → x = y
  | [], [], _, _, _, _ => rfl
  | a :: x, b :: y, hx, hy, hl, h => by
    have h1 := hx a List.mem_cons_self
    have h2 := hy b List.mem_cons_self
    have h3 : a.toNat + 256 * valN x = b.toNat + 256 * valN y := h
    have h4 := valN_inj (x := x) (y := y) (fun z hz => hx z (List.mem_cons_of_mem _ hz)) (fun z hz => hy z (List.mem_cons_of_mem _ hz)) (by simpa using hl) (by omega)
    rw [h4, show a = b by omega]
  | [], _ :: _, _, _, h, _ => by simp at h
  | _ :: _, [], _, _, h, _ => by simp at h

theorem four_inj {s : Nat} {a b : List Int} (ha : Bytes a) (hb : Bytes b) (la : a.length = 4) (lb : b.length = 4) (h : steps s a = steps s b) : a = b := by
  rw [steps_val ha, steps_val hb, la, lb] at h
  have h2 : bits8 32 ((s ^^^ valN a) ^^^ (s ^^^ valN b)) = 0 := by rw [bits8_xor]; show bits8 (8 * 4) _ ^^^ bits8 (8 * 4) _ = 0; rw [h, Nat.xor_self]
  have e : (s ^^^ valN a) ^^^ (s ^^^ valN b) = valN a ^^^ valN b := by
    rw [Nat.xor_comm s (valN a), Nat.xor_assoc, ← Nat.xor_assoc s s (valN b), Nat.xor_self, Nat.zero_xor]
  rw [e] at h2
  have va := valN_lt ha
  have vb := valN_lt hb
  rw [la] at va
  rw [lb] at vb
  have hz := bits8_zero 32 (Nat.xor_lt_two_pow (n := 32) (by simpa using va) (by simpa using vb)) h2
  exact valN_inj ha hb (by rw [la, lb]) (eq_of_xor hz)
theorem sum_mid {p q a b : List Int} (hp : Bytes p) (hq : Bytes q) (ha : Bytes a) (hb : Bytes b) (la : a.length = 4) (lb : b.length = 4) : sumN tab (p ++ a ++ q) = sumN tab (p ++ b ++ q) ↔ a = b := by
  constructor
  · intro h
    unfold sumN at h
    rw [tsum_steps (Bytes.append (Bytes.append hp ha) hq), tsum_steps (Bytes.append (Bytes.append hp hb) hq)] at h
    have l1 := steps_lt (s := 4294967295) (Bytes.append (Bytes.append hp ha) hq) (by omega)
    have l2 := steps_lt (s := 4294967295) (Bytes.append (Bytes.append hp hb) hq) (by omega)
    have h2 : steps 4294967295 (p ++ a ++ q) = steps 4294967295 (p ++ b ++ q) := by omega
    rw [steps_append, steps_append, steps_append, steps_append] at h2
    have l3 := steps_lt (s := 4294967295) hp (by omega)
    exact four_inj ha hb la lb (steps_inj hq (steps_lt ha l3) (steps_lt hb l3) h2)
  · rintro rfl; rfl
theorem lowN4_inj {x y : Nat} (hx : x < 4294967296) (hy : y < 4294967296) : lowN x 4 = lowN y 4 ↔ x = y := by
  constructor
  · intro h
    simp only [lowN, List.cons.injEq, and_true] at h
    omega
  · rintro rfl; rfl
end Go.Proofs.Ytkjjmmgngdpppaa

namespace Go.Proofs.Ytkjjmmgngdpppaa
open Go.RowKit Go.Proofs.YtkjjmmgngdpppaaW.PrintWords Go.Proofs.YtkjjmmgngdpppaaW.PrintLast Go.Proofs.YtkjjmmgngdpppaaW.PrintMore
set_option linter.unusedVariables false
set_option linter.unusedSimpArgs false

def toR (x : S25) : S52 := ⟨x.f0, x.f1⟩
theorem rdT25_get {L : List S25} {j : Nat} (h : j < L.length) : rd_T25 L (j : Int) = L[j] := by
  unfold rd_T25; rw [List.getD_eq_getElem?_getD, Int.toNat_natCast, List.getElem?_eq_getElem h]; rfl
theorem rdT52_get {L : List S52} {j : Nat} (h : j < L.length) : rd_T52 L (j : Int) = L[j] := by
  unfold rd_T52; rw [List.getD_eq_getElem?_getD, Int.toNat_natCast, List.getElem?_eq_getElem h]; rfl
theorem wrap_succ {j : Nat} (h : j ≤ 1000000) : wrap64 ((j : Int) + 1) = ((j + 1 : Nat) : Int) := by unfold wrap64; omega
theorem own_l0 (L : List S25) (hL : L.length ≤ 1000000) : ∀ (d k j : Nat) (acc : List S52), L.length - j = d → d < k → j ≤ L.length → acc.length ≤ j → hoodwinklaw06_own.l0 k acc L (L.length : Int) (j : Int) = some (acc ++ (L.drop j).map toR)
  | 0, k, j, acc, hd, hk, hj, ha => by
    obtain ⟨k, rfl⟩ : ∃ m, k = m + 1 := ⟨k - 1, by omega⟩
    simp only [hoodwinklaw06_own.l0]
    rw [if_neg (by omega), List.drop_of_length_le (by omega)]; simp
  | d + 1, k, j, acc, hd, hk, hj, ha => by
    obtain ⟨k, rfl⟩ : ∃ m, k = m + 1 := ⟨k - 1, by omega⟩
    have hlt : j < L.length := by omega
    simp only [hoodwinklaw06_own.l0]
    rw [if_pos (by omega), if_pos (by omega), if_pos (by omega), if_pos (by omega), wrap_succ (by omega), own_l0 L hL d k (j + 1) _ (by omega) (by omega) (by omega) (by simp; omega), List.drop_eq_getElem_cons hlt, rdT25_get hlt, List.append_assoc]
    rfl
theorem own_any (A : Option Addr) (n c : Nat) (L : List S25) (w : World) (hr : k25.C w A n L) (hc : n ≤ c) (hn : n ≤ 1000000) :
    Calls Try.prog 20 #[.slice A n c] w fun e w' => ∃ v, e = .returned v ∧ k52.R 52 w' w.heap.size (fun _ => True) v (L.map toR) ∧ Below w.heap.size w w' := by
  obtain rfl := hr.1
  exact hoodwinklaw06_own.calls (L.length + 1) A c L _ w hr hc (by
    have := own_l0 L hn L.length (L.length + 1) 0 [] (by omega) (by omega) (by omega) (Nat.le_refl _)
    simpa [hoodwinklaw06_own.f] using this)
theorem refput_f (l : List S52) (j : Nat) (c : S52) (hj : j < l.length) (hl : l.length ≤ 1000000) : hoodwinkref06_Put.f l (j : Int) c.f0 c.f1 = some (l.set j c) := by
  unfold hoodwinkref06_Put.f
  show (if ([] : List S52).length + l.length < 17592186044416 then _ else none) = _
  rw [if_pos (by simp; omega)]
  show (if (0 : Int) ≤ (j : Int) then (if (j : Int) < (([] ++ l : List S52).length : Int) then some (([] ++ l : List S52).set (j : Int).toNat ⟨c.f0, c.f1⟩) else none) else none) = _
  rw [if_pos (by omega), List.nil_append, if_pos (by omega), Int.toNat_natCast]
theorem refput_any (A : Option Addr) (n c : Nat) (l : List S52) (j : Nat) (x : S52) (w : World) (hr : k52.C w A n l) (hc : n ≤ c) (hn : n ≤ 1000000) (hj : j < n) :
    Calls Try.prog 22 #[.slice A n c, .int .i64 j, .agg #[.int .i32 x.f0, .int .u32 x.f1]] w fun e w' => ∃ v, e = .returned v ∧ k52.R 52 w' w.heap.size (fun _ => True) v (l.set j x) ∧ Below w.heap.size w w' := by
  obtain rfl := hr.1
  exact hoodwinkref06_Put.calls A c l j x.f0 x.f1 _ w hr hc (refput_f l j x hj hn)

/-! ### Same -/
theorem eqCellR (d : Nat) (w : World) (x0 y0 : Int) (x1 y1 : Int) :
    (Op.equalIn (d + 2) 52 (.agg #[.int .i32 x0, .int .u32 x1]) (.agg #[.int .i32 y0, .int .u32 y1])).run Try.prog w = .ok (x0 == y0 && (x1 == y1)) w := by
  refine eqA_of Try.underlying52 (by kernel_rfl) ?_
  refine eqf_cons (by rfl) (by go_simp; rfl) (by go_simp; rfl) (by go_simp) ?_
  exact eqf_last (by rfl) (by go_simp; rfl) (by go_simp; rfl) (by go_simp)
theorem cellR_neq (a b c d : Int) (w : World) : (binOp .neq 52 (.agg #[.int .i32 a, .int .u32 b]) (.agg #[.int .i32 c, .int .u32 d])).run Try.prog w = .ok (.bool (!(a == c && (b == d)))) w := by
  rw [run_neq_struct, eqCellR 9998]; rfl
theorem cellR_guard (op : BinOp) (x y : Operand) (xs ys : Array Value) (w : World) : (eqGuard op 52 x y (.agg xs) (.agg ys)).run Try.prog w = .ok () w := run_eqGuard_agg w op _ x y xs ys (by kernel_rfl)
def sameL : List S52 → List S52 → Bool
  | [], [] => true
  | x :: xs, y :: ys => (x.f0 == y.f0 && x.f1 == y.f1) && sameL xs ys
  | _, _ => false
theorem S52_eq {a b : S52} : (a.f0 == b.f0 && a.f1 == b.f1) = true ↔ a = b := by
  cases a; cases b; simp
theorem sameL_iff : ∀ x y : List S52, sameL x y = true ↔ x = y
  | [], [] => by simp [sameL]
  | x :: xs, y :: ys => by rw [sameL, Bool.and_eq_true, S52_eq, sameL_iff xs ys, List.cons.injEq]
  | [], y :: ys => by simp [sameL]
  | x :: xs, [] => by simp [sameL]
theorem sameL_refl (x : List S52) : sameL x x = true := (sameL_iff x x).2 rfl
theorem sameL_ne {x y : List S52} (h : x ≠ y) : sameL x y = false := by
  cases e : sameL x y with
  | true => exact absurd ((sameL_iff x y).1 e) h
  | false => rfl
theorem cell_at52 {w : World} {A : Option Addr} {n : Nat} {x : List S52} (h : k52.C w A n x) {j : Nat} (hj : j < x.length) : ∃ ad, A = some ad ∧ w.cell? (ad.add (j * 2)) = some (.int .i32 x[j].f0) ∧ w.cell? ⟨(ad.add (j * 2)).block, (ad.add (j * 2)).off + 1, none⟩ = some (.int .u32 x[j].f1) := by
  have := at_T52 h (j : Int) (by omega) (by have := h.1; omega)
  rw [rdT52_get hj, Int.toNat_natCast] at this
  exact this
set_option maxRecDepth 100000 in
set_option maxHeartbeats 4000000 in
theorem csame_any (A B : Option Addr) (n m c d : Nat) (x y : List S52) (w : World) (hx : k52.C w A n x) (hy : k52.C w B m y) (hn : n ≤ 1000000) (hm : m ≤ 1000000) :
    Calls Try.prog 23 #[.slice A n c, .slice B m d] w fun e w' => e = .returned (.bool (sameL x y)) ∧ Drawn0 w w' := by
  have hlx := hx.1
  have hly := hy.1
  by_cases hnm : n = m
  · subst hnm
    have HX := Aside0.mk hx
    have HY := Aside0.mk hy
    have HL := Aside0.mk (And.intro hlx hly)
    have d0 : ((n : Int) != n) = false := by simp
    clear hx hy hlx hly
    go_enter Try.func23, Try.ntmps23
    go_wp2_with fail
    go_loopw [13] (fun v13 wr => ∃ i : Nat, i ≤ n ∧ v13 = .int .i64 i ∧ Aside0 (x.take i = y.take i ∧ Drawn0 w wr)) (fun v13 _ => n - (intOf v13).toNat)
    case atStart => exact ⟨0, by omega, rfl, ⟨by simp, Drawn0.refl w⟩⟩
    case round =>
      obtain ⟨i, hi, rfl, H⟩ := hrel
      by_cases hlt : i < n
      · have d1 : decide (i < n) = true := decide_eq_true hlt
        have hix : i < x.length := by have := HL.out; omega
        have hiy : i < y.length := by have := HL.out; omega
        obtain ⟨n0, hw⟩ := H.out.2
        subst hw
        obtain ⟨ax, rfl, x0, x1⟩ := cell_at52 HX.out hix
        obtain ⟨ay, rfl, y0, y1⟩ := cell_at52 HY.out hiy
        have hcn := cellR_neq x[i].f0 x[i].f1 y[i].f0 y[i].f1
        have hcg := cellR_guard
        have HE := Aside0.mk (S52_eq (a := x[i]) (b := y[i]))
        have HT := Aside0.mk (And.intro (take_snoc hix) (take_snoc hiy))
        cases hq : (x[i].f0 == y[i].f0 && x[i].f1 == y[i].f1) with
        | true =>
          rw [hq] at hcn HE
          have H2 := Aside0.mk (HE.out.1 rfl)
          generalize x[i].f0 = x0v at *
          generalize x[i].f1 = x1v at *
          generalize y[i].f0 = y0v at *
          generalize y[i].f1 = y1v at *
          rw [Bool.not_true] at hcn
          clear hq HE
          go_wp2_with fail
          go_region
          go_wp2_with fail
          go_roundw
          case rel => exact ⟨i + 1, by omega, by go_num, ⟨by rw [HT.out.1, HT.out.2, H.out.1, H2.out], ⟨⟨n0 + 1, rfl⟩⟩⟩⟩
          case measure => simp [intOf]; omega
        | false =>
          rw [hq] at hcn HE
          have H2 : Aside0 (sameL x y = false) := ⟨sameL_ne (fun e => by
            have h3 := HE.out.2 (by subst e; rfl)
            cases h3)⟩
          generalize x[i].f0 = x0v at *
          generalize x[i].f1 = x1v at *
          generalize y[i].f0 = y0v at *
          generalize y[i].f1 = y1v at *
          rw [Bool.not_false] at hcn
          clear hq HE
          go_wp2_with fail
          go_region
          go_wp2_with fail
          go_ret
          exact ⟨by rw [H2.out]; rfl, ⟨⟨n0 + 1, rfl⟩⟩⟩
      · obtain rfl : i = n := by omega
        have d1 : decide (i < i) = false := decide_eq_false (by omega)
        have H2 : Aside0 (sameL x y = true) := ⟨(sameL_iff x y).2 (by have := H.out.1; rwa [List.take_of_length_le (by have := HL.out; omega), List.take_of_length_le (by have := HL.out; omega)] at this)⟩
        go_wp2_with fail
        go_ret
        exact ⟨by rw [H2.out]; rfl, H.out.2⟩
  · have H2 : Aside0 (sameL x y = false) := ⟨sameL_ne (fun e => hnm (by rw [← hlx, ← hly, e]))⟩
    have d0 : ((n : Int) != m) = true := by simp; omega
    clear hx hy hlx hly
    go_enter Try.func23, Try.ntmps23
    go_wp2_with fail
    go_ret
    exact ⟨by rw [H2.out]; rfl, Drawn0.refl w⟩
end Go.Proofs.Ytkjjmmgngdpppaa

namespace Go.Proofs.Ytkjjmmgngdpppaa
open Go.RowKit Go.Proofs.YtkjjmmgngdpppaaW.PrintWords Go.Proofs.YtkjjmmgngdpppaaW.PrintLast Go.Proofs.YtkjjmmgngdpppaaW.PrintMore
set_option linter.unusedVariables false
set_option linter.unusedSimpArgs false

theorem bytesB_append (b : Bool) (L M : List S25) : bytesB b (L ++ M) = bytesB b L ++ bytesB b M := by unfold bytesB; rw [List.map_append, List.flatten_append]
theorem bytesB_set (b : Bool) {M : List S25} {k : Nat} (hk : k < M.length) (x : S25) : bytesB b (M.set k x) = bytesB b (M.take k) ++ cellB b x ++ bytesB b (M.drop (k + 1)) := by
  rw [List.set_eq_take_append_cons_drop, if_pos hk, bytesB_append, show x :: M.drop (k + 1) = [x] ++ M.drop (k + 1) from rfl, bytesB_append, List.append_assoc]
  congr 2
  simp [bytesB]
theorem bytesB_get (b : Bool) {M : List S25} {k : Nat} (hk : k < M.length) : bytesB b M = bytesB b (M.take k) ++ cellB b M[k] ++ bytesB b (M.drop (k + 1)) := by
  rw [← bytesB_set b hk M[k], List.set_getElem_self]
theorem OkC.i32 {x : S25} (h : OkC x) : -2147483648 ≤ x.f0 ∧ x.f0 ≤ 2147483647 := by have := bounds_i32 h.1; omega
theorem OkC.u32 {x : S25} (h : OkC x) : U32 x.f1 := by have := bounds_u32 h.2; unfold U32; omega
/-- Another value. -/
theorem hash_value {M : List S25} {k : Nat} (hk : k < M.length) (hM : ∀ x ∈ M, OkC x) (v : Int) (hv : -2147483648 ≤ v ∧ v ≤ 2147483647) : sumB true (M.set k ⟨v, M[k].f1⟩) = sumB true M ↔ v = M[k].f0 := by
  have h0 := (hM _ (List.getElem_mem hk)).i32
  unfold sumB
  rw [bytesB_set true hk, bytesB_get true hk]
  have e : ∀ x : S25, bytesB true (M.take k) ++ cellB true x ++ bytesB true (M.drop (k + 1)) = bytesB true (M.take k) ++ lowN (x.f0 % 4294967296).toNat 4 ++ (lowN x.f1.toNat 4 ++ bytesB true (M.drop (k + 1))) := fun x => by unfold cellB; simp
  rw [e, e, sum_mid (bytesB_bytes _ _) (Bytes.append (lowN_bytes _ _) (bytesB_bytes _ _)) (lowN_bytes _ _) (lowN_bytes _ _) (lowN_length _ _) (lowN_length _ _), lowN4_inj (by omega) (by omega)]
  simp only
  omega
/-- Another label. -/
theorem hash_label (b : Bool) {M : List S25} {k : Nat} (hk : k < M.length) (hM : ∀ x ∈ M, OkC x) (s : Int) (hs : U32 s) : sumB b (M.set k ⟨M[k].f0, s⟩) = sumB b M ↔ s = M[k].f1 := by
  have h0 := (hM _ (List.getElem_mem hk)).u32
  unfold sumB
  rw [bytesB_set b hk, bytesB_get b hk]
  have e : ∀ x : S25, bytesB b (M.take k) ++ cellB b x ++ bytesB b (M.drop (k + 1)) = (bytesB b (M.take k) ++ (if b = true then lowN (x.f0 % 4294967296).toNat 4 else [])) ++ lowN x.f1.toNat 4 ++ bytesB b (M.drop (k + 1)) := fun x => by unfold cellB; simp
  have hb : Bytes (if b = true then lowN (M[k].f0 % 4294967296).toNat 4 else []) := by
    cases b
    · exact Bytes.nil
    · exact lowN_bytes _ _
  unfold U32 at hs h0
  rw [e, e, sum_mid (Bytes.append (bytesB_bytes _ _) hb) (bytesB_bytes _ _) (lowN_bytes _ _) (lowN_bytes _ _) (lowN_length _ _) (lowN_length _ _), lowN4_inj (by simp only; omega) (by omega)]
  simp only
  omega
/-- Labels say nothing of values. -/
theorem bytes_labels : ∀ {L M : List S25}, L.map (fun x => x.f1) = M.map (fun x => x.f1) → bytesB false L = bytesB false M
  | [], [], _ => rfl
  | x :: L, y :: M, h => by
    simp only [List.map_cons, List.cons.injEq] at h
    have ih := bytes_labels h.2
    show cellB false x ++ bytesB false L = cellB false y ++ bytesB false M
    rw [ih]; unfold cellB; rw [h.1]; simp
  | [], y :: M, h => by simp at h
  | x :: L, [], h => by simp at h
theorem labels_value {M : List S25} {k : Nat} (hk : k < M.length) (v : Int) : sumB false (M.set k ⟨v, M[k].f1⟩) = sumB false M := by
  unfold sumB
  rw [bytes_labels (M := M)]
  apply List.ext_getElem
  · simp
  · intro i h1 h2
    simp only [List.getElem_map, List.getElem_set]
    split
    · rename_i e; subst e; rfl
    · rfl
end Go.Proofs.Ytkjjmmgngdpppaa

namespace Go.Proofs.Ytkjjmmgngdpppaa
open Go.RowKit Go.Proofs.YtkjjmmgngdpppaaW.PrintWords Go.Proofs.YtkjjmmgngdpppaaW.PrintLast Go.Proofs.YtkjjmmgngdpppaaW.PrintMore
set_option linter.unusedVariables false
set_option linter.unusedSimpArgs false

theorem listF_fL (M : List S25) : listF (fL M) M.length = M := by
  unfold listF fL
  apply List.ext_getElem
  · simp
  · intro j h1 h2
    simp [List.getD_eq_getElem?_getD, h2]
theorem listF_put (M : List S25) (j : Nat) (c : S25) : listF (putF (fL M) j c) M.length = M.set j c := by
  apply List.ext_getElem
  · simp [listF]
  · intro i h1 h2
    have hi : i < M.length := by simpa [listF] using h1
    simp only [listF, List.getElem_map, List.getElem_range, putF, List.getElem_set]
    by_cases e : i = j
    · rw [if_pos e, if_pos e.symm]
    · rw [if_neg e, if_neg (fun h => e h.symm)]
      unfold fL
      rw [List.getD_eq_getElem?_getD, List.getElem?_eq_getElem hi]; rfl
theorem map_set {α β : Type} (g : α → β) (l : List α) (j : Nat) (c : α) : (l.map g).set j (g c) = (l.set j c).map g := by rw [List.map_set]
theorem cell_at25 {w : World} {A : Option Addr} {n : Nat} {x : List S25} (h : k25.C w A n x) {j : Nat} (hj : j < x.length) : ∃ ad, A = some ad ∧ w.cell? (ad.add (j * 2)) = some (.int .i32 x[j].f0) ∧ w.cell? ⟨(ad.add (j * 2)).block, (ad.add (j * 2)).off + 1, none⟩ = some (.int .u32 x[j].f1) := by
  have := at_T25 h (j : Int) (by omega) (by have := h.1; omega)
  rw [rdT25_get hj, Int.toNat_natCast] at this
  exact this
theorem fL_get {M : List S25} {j : Nat} (hj : j < M.length) : fL M j = M[j] := by unfold fL; rw [List.getD_eq_getElem?_getD, List.getElem?_eq_getElem hj]; rfl
end Go.Proofs.Ytkjjmmgngdpppaa

namespace Go.Proofs.Ytkjjmmgngdpppaa
open Go.RowKit Go.Proofs.YtkjjmmgngdpppaaW.PrintWords Go.Proofs.YtkjjmmgngdpppaaW.PrintLast Go.Proofs.YtkjjmmgngdpppaaW.PrintMore
set_option linter.unusedVariables false
set_option linter.unusedSimpArgs false

theorem row_cells {w : World} {e base n c : Nat} {ok : Nat → Prop} {ad : Addr} {xs : List S25} (h : k25.R e w base ok (.slice (some ad) n c) xs) {j : Nat} (hj : j < xs.length) :
    w.cell? (ad.add (j * 2)) = some (.int .i32 xs[j].f0) ∧ w.cell? ⟨(ad.add (j * 2)).block, (ad.add (j * 2)).off + 1, none⟩ = some (.int .u32 xs[j].f1) := by
  obtain ⟨ad', hq, h0, h1⟩ := cell_at25 (Ru_C h).2.2 hj
  cases hq
  exact ⟨h0, h1⟩
def allB (f : Nat → S25) : Nat → Int → Bool
  | 0, _ => true
  | i + 1, o => allB f i o && hasB (f i).f1 o
theorem allB_succ (f : Nat → S25) (i : Nat) (o : Int) : allB f (i + 1) o = (allB f i o && hasB (f i).f1 o) := rfl
theorem allB_all {f : Nat → S25} {o : Int} : ∀ {i : Nat}, allB f i o = true → ∀ j, j < i → hasB (f j).f1 o = true
  | 0, _, j, hj => by omega
  | i + 1, h, j, hj => by
    rw [allB_succ, Bool.and_eq_true] at h
    by_cases e : j = i
    · rw [e]; exact h.2
    · exact allB_all h.1 j (by omega)
theorem view_f1 (f : Nat → S25) (m : Nat) (o : Int) (i : Nat) : (viewF f m o i).f1 = (f i).f1 := by unfold viewF; split <;> rfl
theorem view_is (f : Nat → S25) (m : Nat) (o : Int) (i : Nat) (h : i < m) : viewF f m o i = if hasB (f i).f1 o = true then f i else ⟨0, (f i).f1⟩ := by
  unfold viewF
  cases hh : hasB (f i).f1 o with
  | true => simp
  | false => simp [h]
theorem view2_at (f : Nat → S25) (m : Nat) (o p : Int) (i : Nat) (h : i < m) : viewF (viewF f m o) m p i = if (hasB (f i).f1 o && hasB (f i).f1 p) = true then f i else ⟨0, (f i).f1⟩ := by
  rw [view_is _ m p i h, view_f1, view_is f m o i h]
  cases hasB (f i).f1 o <;> cases hasB (f i).f1 p <;> simp
theorem view_out (f : Nat → S25) (m : Nat) (o : Int) (i : Nat) (h : ¬ i < m) : viewF f m o i = f i := by unfold viewF; rw [if_neg (fun hh => h hh.1)]
theorem view_swap (f : Nat → S25) (m : Nat) (o p : Int) : sameB (viewF (viewF f m o) m p) (viewF (viewF f m p) m o) m m = true := by
  refine (sameB_iff _ _ _ _).2 ⟨fun j _ => ?_, rfl⟩
  by_cases h : j < m
  · rw [view2_at _ _ _ _ _ h, view2_at _ _ _ _ _ h, Bool.and_comm]
  · rw [view_out _ _ _ _ h, view_out _ _ _ _ h, view_out _ _ _ _ h, view_out _ _ _ _ h]
theorem view_all (f : Nat → S25) (m : Nat) (o : Int) (h : allB f m o = true) : sameB (viewF f m o) f m m = true := by
  refine (sameB_iff _ _ _ _).2 ⟨fun j _ => ?_, rfl⟩
  by_cases hj : j < m
  · rw [view_is f m o j hj, if_pos (allB_all h j hj)]
  · rw [view_out _ _ _ _ hj]
theorem view_twice (f : Nat → S25) (m : Nat) (o : Int) : sameB (viewF (viewF f m o) m o) (viewF f m o) m m = true := by
  refine (sameB_iff _ _ _ _).2 ⟨fun j _ => ?_, rfl⟩
  by_cases h : j < m
  · rw [view2_at _ _ _ _ _ h, view_is f m o j h, Bool.and_self]
  · rw [view_out _ _ _ _ h]
end Go.Proofs.Ytkjjmmgngdpppaa

namespace Go.Proofs.Ytkjjmmgngdpppaa
open Go.RowKit Go.Proofs.YtkjjmmgngdpppaaW.PrintWords Go.Proofs.YtkjjmmgngdpppaaW.PrintLast Go.Proofs.YtkjjmmgngdpppaaW.PrintMore
set_option linter.unusedVariables false
set_option linter.unusedSimpArgs false

theorem sees_f (a0 a1 o : Int) (hU : U32 a1) : hoodwinkref06_Sees.f a0 a1 o = some (hasB a1 o) := by
  unfold hoodwinkref06_Sees.f
  by_cases h0 : o ≥ 0
  · by_cases h1 : o < 32
    · rw [if_pos h0, if_pos h1, if_pos h0, hasB_bit a1 o h0 h1]
      obtain ⟨x, hx⟩ : ∃ x : Nat, a1 = (x : Int) := ⟨a1.toNat, by unfold U32 at hU; omega⟩
      obtain ⟨i, hi⟩ : ∃ i : Nat, o = (i : Int) := ⟨o.toNat, by omega⟩
      subst hx hi
      have hs : shr .u32 (x : Int) (i : Int) = ((x / 2 ^ i : Nat) : Int) := by
        unfold shr
        have hm : min (i : Int).toNat IntKind.u32.bits = i := by rw [Int.toNat_natCast]; exact Nat.min_eq_left (by show i ≤ 32; omega)
        rw [hm]
        have h2 : ((2 : Int) ^ i) = ((2 ^ i : Nat) : Int) := by push_cast; rfl
        rw [h2]
        rfl
      have hb : (bv (x : Int)).getLsbD (i : Int).toNat = x.testBit i := by
        unfold bv
        rw [Int.toNat_natCast, show BitVec.ofInt 32 (x : Int) = BitVec.ofNat 32 x by simp, BitVec.getLsbD_ofNat]
        simp; omega
      rw [hs, hb, Int.tmod_eq_emod_of_nonneg (Int.natCast_nonneg _), Nat.testBit_eq_decide_div_mod_eq]
      generalize x / 2 ^ i = z
      congr 1
      rw [Bool.eq_iff_iff, beq_iff_eq, decide_eq_true_iff]
      omega
    · rw [if_pos h0, if_neg h1, hasB_out _ _ (by omega)]
  · rw [if_neg h0, hasB_out _ _ (by omega)]
def viewR (o : Int) (x : S52) : S52 := if hasB x.f1 o = true then x else ⟨0, x.f1⟩
theorem refview_l0 (l : List S52) (o : Int) (hl : l.length ≤ 1000000) (hU : ∀ x ∈ l, U32 x.f1) : ∀ (d k j : Nat) (acc : List S52), l.length - j = d → d < k → j ≤ l.length → acc.length ≤ j → hoodwinkref06_View.l0 k o acc l (l.length : Int) (j : Int) = some (acc ++ (l.drop j).map (viewR o))
  | 0, k, j, acc, hd, hk, hj, ha => by
    obtain ⟨k, rfl⟩ : ∃ m, k = m + 1 := ⟨k - 1, by omega⟩
    simp only [hoodwinkref06_View.l0]
    rw [if_neg (by omega), List.drop_of_length_le (by omega)]; simp
  | d + 1, k, j, acc, hd, hk, hj, ha => by
    obtain ⟨k, rfl⟩ : ∃ m, k = m + 1 := ⟨k - 1, by omega⟩
    have hlt : j < l.length := by omega
    simp only [hoodwinkref06_View.l0]
    rw [if_pos (by omega), if_pos (by omega), if_pos (by omega), rdT52_get hlt, sees_f _ _ _ (hU _ (List.getElem_mem hlt)), List.drop_eq_getElem_cons hlt, List.map_cons]
    show (if hasB l[j].f1 o = true then _ else _) = _
    unfold viewR
    cases hh : hasB l[j].f1 o with
    | true =>
      rw [if_pos rfl, if_pos (by omega), wrap_succ (by omega), refview_l0 l o hl hU d k (j + 1) _ (by omega) (by omega) (by omega) (by simp; omega), List.append_assoc]
      rfl
    | false =>
      rw [if_neg (by decide), if_pos (by omega), wrap_succ (by omega), refview_l0 l o hl hU d k (j + 1) _ (by omega) (by omega) (by omega) (by simp; omega), List.append_assoc]
      rfl
theorem refview_any (A : Option Addr) (n c : Nat) (l : List S52) (o : Int) (w : World) (hr : k52.C w A n l) (hc : n ≤ c) (hn : n ≤ 1000000) (hU : ∀ x ∈ l, U32 x.f1) :
    Calls Try.prog 25 #[.slice A n c, .int .i64 o] w fun e w' => ∃ v, e = .returned v ∧ k52.R 52 w' w.heap.size (fun _ => True) v (l.map (viewR o)) ∧ Below w.heap.size w w' := by
  obtain rfl := hr.1
  exact hoodwinkref06_View.calls (l.length + 1) A c l o _ w hr hc (by
    have := refview_l0 l o hn hU l.length (l.length + 1) 0 [] (by omega) (by omega) (by omega) (Nat.le_refl _)
    simpa [hoodwinkref06_View.f] using this)

set_option maxRecDepth 100000 in
set_option maxHeartbeats 4000000 in
theorem alike_any (f h : Nat → S25) (n m : Nat) (o : Int) (w : World) (hn : n ≤ 48) (hm : m ≤ 48) :
    Calls Try.prog 24 #[.agg (boardC f n), .agg (boardC h m), .int .i64 o] w fun e w' => e = .returned (.bool (sameB (viewF f n o) (viewF h m o) n m)) ∧ Below w.heap.size w w' := by
  have HI := fun f m => Aside0.mk (board_info f m)
  have HP := Aside0.mk (((Hp.start w).alloc (.cells (boardC f n) 30)).allocAt (.cells (boardC h m) 30) (w.heap.size + 1) (by simp))
  have HN := Aside0.mk (And.intro hn hm)
  have hbe := board_eql (viewF f n o) (viewF h m o) n m
  have HBE := Aside0.mk (And.intro hbe board_guard)
  clear hn hm hbe
  go_enter Try.func24, Try.ntmps24
  go_wp2_with fail
  generalize (w.alloc (.cells (boardC f n) 30)).alloc (.cells (boardC h m) 30) = W at *
  generalize hq : sameB (viewF f n o) (viewF h m o) n m = q at *
  have HQ := Aside0.mk hq
  clear hq
  generalize hgs : w.heap.size = gs at *
  have HGS := Aside0.mk hgs
  clear hgs
  refine region_grown (W := W)
    [fun (w : World) (v : Value) => v = .func (.func 26) #[] #[],
   fun (w : World) (v : Value) => v = .agg (boardC f n),
   fun (w : World) (v : Value) => v = .int .i64 o,
   fun (w : World) (v : Value) => v = .agg (boardC (viewF f n o) n),
   fun (w : World) (v : Value) => v = .func (.func 26) #[] #[],
   fun (w : World) (v : Value) => v = .agg (boardC h m),
   fun (w : World) (v : Value) => v = .int .i64 o,
   fun (w : World) (v : Value) => v = .agg (boardC (viewF h m o) m),
   fun (w : World) (v : Value) => v = .bool q,
   fun (w : World) (v : Value) => v = .bool q]
    (fun j =>  none)
    [(0, some 8), (1, some 9), (2, some 10), (3, some 11), (4, some 12), (5, some 13), (6, some 14), (7, some 15), (8, some 16), (9, some 6)]
    []
    (by kernel_rfl) (by kernel_rfl) (by kernel_rfl) (by kernel_rfl) ?r2_1g ?r2_1s ⟨?r2_1o0, ?r2_1o1, ?r2_1o2, ?r2_1o3, ?r2_1o4, ?r2_1o5, ?r2_1o6, ?r2_1o7, ?r2_1o8, ?r2_1o9, trivial⟩ ?r2_1e
  case r2_1g =>
    intro j hj; cases hj
  case r2_1s =>
    refine ⟨(fun w w' v hb h => h), (fun w w' v hb h => h), (fun w w' v hb h => h), (fun w w' v hb h => h), (fun w w' v hb h => h), (fun w w' v hb h => h), (fun w w' v hb h => h), (fun w w' v hb h => h), (fun w w' v hb h => h), (fun w w' v hb h => h), trivial⟩
  case r2_1o0 =>
    intro vs w hb hV
    rw [if_pos (by kernel_rfl)]
    generalize hρ : rho _ _ _ vs = ρ
    have e7 : ρ (.tmp 7) = .func (.func 26) #[] #[] := by rw [← hρ]; kernel_rfl
    clear hρ hV
    refine runs_val (v := .func (.func 26) #[] #[]) (w' := w) ?_ ⟨Below.refl _ _, rfl⟩
    go_simp <;> (first | exact IntWalk.u64_in _ (by omega) | exact IntWalk.u32_in _ (by omega) | exact IntWalk.u16_in _ (by omega) | exact IntWalk.u8_in _ (by omega) | exact IntWalk.i64_in _ (by omega) | skip)
  case r2_1o1 =>
    intro vs w hb hV
    rw [if_pos (by kernel_rfl)]
    generalize hρ : rho _ _ _ vs = ρ
    have e3 : ρ (.tmp 3) = .pointer (some ⟨gs, 0, none⟩) := by rw [← hρ]; kernel_rfl
    clear hρ hV
    exact runs_load 30 (.tmp 3) rfl gs e3 30 (boardC f n) (0, 0) _ ((hb.block gs (blk_lt (HP.out.get (i := 1) rfl))).trans (HP.out.get (i := 1) rfl)) Try.underlying30 rfl (HI _ _).out ⟨Below.refl _ _, rfl⟩
  case r2_1o2 =>
    intro vs w hb hV
    rw [if_pos (by kernel_rfl)]
    generalize hρ : rho _ _ _ vs = ρ
    have e2 : ρ (.tmp 2) = .int .i64 o := by rw [← hρ]; kernel_rfl
    clear hρ hV
    refine runs_val (v := .int .i64 o) (w' := w) ?_ ⟨Below.refl _ _, rfl⟩
    go_simp <;> (first | exact IntWalk.u64_in _ (by omega) | exact IntWalk.u32_in _ (by omega) | exact IntWalk.u16_in _ (by omega) | exact IntWalk.u8_in _ (by omega) | exact IntWalk.i64_in _ (by omega) | skip)
  case r2_1o3 =>
    intro vs w hb hV
    rw [if_pos (by kernel_rfl)]
    generalize hρ : rho _ _ _ vs = ρ
    have d8 : (vs 0) = .func (.func 26) #[] #[] := hV 0 (by kernel_rfl)
    have e8 : ρ (.tmp 8) = vs 0 := by rw [← hρ]; kernel_rfl
    rw [d8] at e8; clear d8
    have d9 : (vs 1) = .agg (boardC f n) := hV 1 (by kernel_rfl)
    have e9 : ρ (.tmp 9) = vs 1 := by rw [← hρ]; kernel_rfl
    rw [d9] at e9; clear d9
    have d10 : (vs 2) = .int .i64 o := hV 2 (by kernel_rfl)
    have e10 : ρ (.tmp 10) = vs 2 := by rw [← hρ]; kernel_rfl
    rw [d10] at e10; clear d10
    clear hρ hV
    refine runs_call (f := 26) (args := #[.agg (boardC f n), .int .i64 o]) (w' := w) ?_ ?_
    · go_simp
    · refine (view_any f n o _ HN.out.1).mono ?_
      rintro e w5 ⟨rfl, hb5⟩
      exact ⟨_, rfl, hb5, rfl⟩
  case r2_1o4 =>
    intro vs w hb hV
    rw [if_pos (by kernel_rfl)]
    generalize hρ : rho _ _ _ vs = ρ
    have e7 : ρ (.tmp 7) = .func (.func 26) #[] #[] := by rw [← hρ]; kernel_rfl
    clear hρ hV
    refine runs_val (v := .func (.func 26) #[] #[]) (w' := w) ?_ ⟨Below.refl _ _, rfl⟩
    go_simp <;> (first | exact IntWalk.u64_in _ (by omega) | exact IntWalk.u32_in _ (by omega) | exact IntWalk.u16_in _ (by omega) | exact IntWalk.u8_in _ (by omega) | exact IntWalk.i64_in _ (by omega) | skip)
  case r2_1o5 =>
    intro vs w hb hV
    rw [if_pos (by kernel_rfl)]
    generalize hρ : rho _ _ _ vs = ρ
    have e4 : ρ (.tmp 4) = .pointer (some ⟨gs + 1, 0, none⟩) := by rw [← hρ]; kernel_rfl
    clear hρ hV
    exact runs_load 30 (.tmp 4) rfl (gs + 1) e4 30 (boardC h m) (0, 0) _ ((hb.block (gs + 1) (blk_lt (HP.out.get (i := 0) rfl))).trans (HP.out.get (i := 0) rfl)) Try.underlying30 rfl (HI _ _).out ⟨Below.refl _ _, rfl⟩
  case r2_1o6 =>
    intro vs w hb hV
    rw [if_pos (by kernel_rfl)]
    generalize hρ : rho _ _ _ vs = ρ
    have e2 : ρ (.tmp 2) = .int .i64 o := by rw [← hρ]; kernel_rfl
    clear hρ hV
    refine runs_val (v := .int .i64 o) (w' := w) ?_ ⟨Below.refl _ _, rfl⟩
    go_simp <;> (first | exact IntWalk.u64_in _ (by omega) | exact IntWalk.u32_in _ (by omega) | exact IntWalk.u16_in _ (by omega) | exact IntWalk.u8_in _ (by omega) | exact IntWalk.i64_in _ (by omega) | skip)
  case r2_1o7 =>
    intro vs w hb hV
    rw [if_pos (by kernel_rfl)]
    generalize hρ : rho _ _ _ vs = ρ
    have d12 : (vs 4) = .func (.func 26) #[] #[] := hV 4 (by kernel_rfl)
    have e12 : ρ (.tmp 12) = vs 4 := by rw [← hρ]; kernel_rfl
    rw [d12] at e12; clear d12
    have d13 : (vs 5) = .agg (boardC h m) := hV 5 (by kernel_rfl)
    have e13 : ρ (.tmp 13) = vs 5 := by rw [← hρ]; kernel_rfl
    rw [d13] at e13; clear d13
    have d14 : (vs 6) = .int .i64 o := hV 6 (by kernel_rfl)
    have e14 : ρ (.tmp 14) = vs 6 := by rw [← hρ]; kernel_rfl
    rw [d14] at e14; clear d14
    clear hρ hV
    refine runs_call (f := 26) (args := #[.agg (boardC h m), .int .i64 o]) (w' := w) ?_ ?_
    · go_simp
    · refine (view_any h m o _ HN.out.2).mono ?_
      rintro e w5 ⟨rfl, hb5⟩
      exact ⟨_, rfl, hb5, rfl⟩
  case r2_1o8 =>
    intro vs w hb hV
    rw [if_pos (by kernel_rfl)]
    generalize hρ : rho _ _ _ vs = ρ
    have d11 : (vs 3) = .agg (boardC (viewF f n o) n) := hV 3 (by kernel_rfl)
    have e11 : ρ (.tmp 11) = vs 3 := by rw [← hρ]; kernel_rfl
    rw [d11] at e11; clear d11
    have d15 : (vs 7) = .agg (boardC (viewF h m o) m) := hV 7 (by kernel_rfl)
    have e15 : ρ (.tmp 15) = vs 7 := by rw [← hρ]; kernel_rfl
    rw [d15] at e15; clear d15
    clear hρ hV
    obtain ⟨hbe, hbg⟩ := HBE.out
    refine runs_val (v := .bool q) (w' := w) ?_ ⟨Below.refl _ _, rfl⟩
    go_simp
  case r2_1o9 =>
    intro vs w hb hV
    rw [if_pos (by kernel_rfl)]
    generalize hρ : rho _ _ _ vs = ρ
    have d16 : (vs 8) = .bool q := hV 8 (by kernel_rfl)
    have e16 : ρ (.tmp 16) = vs 8 := by rw [← hρ]; kernel_rfl
    clear hρ hV
    refine runs_val (v := vs 8) (w' := w) ?_ ⟨Below.refl _ _, d16⟩
    go_simp
  case r2_1e =>
    intro vs W2 hb2 hV
    have d8 : (vs 0) = .func (.func 26) #[] #[] := hV 0 (Nat.le_of_ble_eq_true rfl)
    have d9 : (vs 1) = .agg (boardC f n) := hV 1 (Nat.le_of_ble_eq_true rfl)
    have d10 : (vs 2) = .int .i64 o := hV 2 (Nat.le_of_ble_eq_true rfl)
    have d11 : (vs 3) = .agg (boardC (viewF f n o) n) := hV 3 (Nat.le_of_ble_eq_true rfl)
    have d12 : (vs 4) = .func (.func 26) #[] #[] := hV 4 (Nat.le_of_ble_eq_true rfl)
    have d13 : (vs 5) = .agg (boardC h m) := hV 5 (Nat.le_of_ble_eq_true rfl)
    have d14 : (vs 6) = .int .i64 o := hV 6 (Nat.le_of_ble_eq_true rfl)
    have d15 : (vs 7) = .agg (boardC (viewF h m o) m) := hV 7 (Nat.le_of_ble_eq_true rfl)
    have d16 : (vs 8) = .bool q := hV 8 (Nat.le_of_ble_eq_true rfl)
    have d6 : (vs 9) = .bool q := hV 9 (Nat.le_of_ble_eq_true rfl)
    clear hV
    simp only [putAll]
    rw [d8, d9, d10, d11, d12, d13, d14, d15, d16, d6]
    clear d8 d9 d10 d11 d12 d13 d14 d15 d16 d6
    clear vs
    simp only [Act.put, List.setIfInBounds_toArray, List.set_cons_zero, List.set_cons_succ]
    have HP2 := Aside0.mk (HP.out.call hb2)
    clear hb2
    go_wp2_with fail
    go_ret
    rw [HGS.out]
    exact ⟨by rw [HQ.out]; rfl, HP2.out.bel⟩

/-! ### Rows that are written -/
def Cur (cur : Array Value) (k : Nat) (f : Nat → S25) : Prop := ∀ j, j < k → cur[2 * j]? = some (.int .i32 (f j).f0) ∧ cur[2 * j + 1]? = some (.int .u32 (f j).f1)
theorem Cur.setlo {cur : Array Value} {k i : Nat} {f : Nat → S25} (h : Cur cur k f) (hi : i < k) (a : Int) : Cur (cur.setIfInBounds (2 * i) (.int .i32 a)) k (putF f i ⟨a, (f i).f1⟩) := by
  intro j hj
  obtain ⟨h0, h1⟩ := h j hj
  have hlt : 2 * i < cur.size := (Array.getElem?_eq_some_iff.1 (h i hi).1).1
  unfold putF
  by_cases e : j = i
  · subst e
    rw [if_pos rfl]
    exact ⟨by rw [Array.getElem?_setIfInBounds_self_of_lt hlt], by rw [Array.getElem?_setIfInBounds_ne (by omega)]; exact h1⟩
  · rw [if_neg e]
    exact ⟨by rw [Array.getElem?_setIfInBounds_ne (by omega)]; exact h0, by rw [Array.getElem?_setIfInBounds_ne (by omega)]; exact h1⟩
theorem C_of_cur {w : World} {g k : Nat} {cur : Array Value} {f : Nat → S25} (hb : w.heap[g]? = some (.cells cur 25 (0, 0))) (h : Cur cur k f) (hk : k ≤ 1000000) : k25.C w (some ⟨g, 0, none⟩) k (listF f k) := by
  refine ⟨listF_length f k, by omega, fun _ => ⟨_, rfl, fun j p hj => ?_⟩⟩
  have hjm : j < k := by
    have := (List.getElem?_eq_some_iff.1 hj).1
    rwa [listF_length] at this
  obtain rfl : f j = p := by
    unfold listF at hj
    rw [List.getElem?_map, List.getElem?_range hjm] at hj
    simpa using hj
  refine ⟨[.int .i32 (f j).f0, .int .u32 (f j).f1], rfl, k25_mk w (f j), fun i u hu => ?_⟩
  show w.cell? ((⟨g, 0, none⟩ : Addr).add (j * 2 + i)) = _
  rw [add_plain, blk_cell hb]
  match i, hu with
  | 0, hu =>
    obtain rfl : Value.int .i32 (f j).f0 = u := by simpa using hu
    rw [Nat.add_zero, Nat.mul_comm]; exact (h j hjm).1
  | 1, hu =>
    obtain rfl : Value.int .u32 (f j).f1 = u := by simpa using hu
    rw [Nat.mul_comm]; exact (h j hjm).2
  | i + 2, hu => simp at hu
theorem cur_of_R {w : World} {base : Nat} {ok : Nat → Prop} {v : Value} {L : List S25} (h : k25.R 25 w base ok v L) :
    (L = [] ∧ v = .slice none 0 0) ∨ ∃ g cap cur, v = .slice (some ⟨g, 0, none⟩) L.length cap ∧ base ≤ g ∧ L.length ≤ cap ∧ w.heap[g]? = some (.cells cur 25 (0, 0)) ∧ Cur cur L.length (fL L) := by
  rcases Rk_of_R h with h | ⟨g, cap, h1, h2, h3, cur, hb, hc⟩
  · exact .inl h
  · exact .inr ⟨g, cap, cur, h1, h2, h3, hb, fun j hj => hc j (Nat.zero_le _) hj⟩
/-- What others' values make of a board that one sees only in part. -/
def altF (f : Nat → S25) (vs : List Int) (o : Int) (m : Nat) : Nat → S25 := fun i => if i < m ∧ i < vs.length ∧ hasB (f i).f1 o = false then ⟨vs.getD i 0, (f i).f1⟩ else f i
theorem altF_zero (f : Nat → S25) (vs : List Int) (o : Int) : altF f vs o 0 = f := by funext i; unfold altF; rw [if_neg (by omega)]
theorem altF_f1 (f : Nat → S25) (vs : List Int) (o : Int) (m i : Nat) : (altF f vs o m i).f1 = (f i).f1 := by unfold altF; split <;> rfl
theorem altF_self (f : Nat → S25) (vs : List Int) (o : Int) (m : Nat) : altF f vs o m m = f m := by unfold altF; rw [if_neg (by omega)]
theorem altF_keep (f : Nat → S25) (vs : List Int) (o : Int) (m : Nat) (h : ¬ (m < vs.length ∧ hasB (f m).f1 o = false)) : altF f vs o (m + 1) = altF f vs o m := by
  funext i
  unfold altF
  by_cases e : i = m
  · subst e; rw [if_neg (fun hh => h hh.2), if_neg (by omega)]
  · by_cases h2 : i < m ∧ i < vs.length ∧ hasB (f i).f1 o = false
    · rw [if_pos ⟨by omega, h2.2⟩, if_pos h2]
    · rw [if_neg (fun hh => h2 ⟨by omega, hh.2⟩), if_neg h2]
theorem altF_step (f : Nat → S25) (vs : List Int) (o : Int) (m : Nat) (h1 : m < vs.length) (h2 : hasB (f m).f1 o = false) : altF f vs o (m + 1) = putF (altF f vs o m) m ⟨vs[m], (altF f vs o m m).f1⟩ := by
  funext i
  unfold putF
  by_cases e : i = m
  · subst e
    rw [if_pos rfl, altF_f1]
    unfold altF
    rw [if_pos ⟨by omega, h1, h2⟩, List.getD_eq_getElem?_getD, List.getElem?_eq_getElem h1]; rfl
  · rw [if_neg e]
    unfold altF
    by_cases h3 : i < m ∧ i < vs.length ∧ hasB (f i).f1 o = false
    · rw [if_pos ⟨by omega, h3.2⟩, if_pos h3]
    · rw [if_neg (fun hh => h3 ⟨by omega, hh.2⟩), if_neg h3]
theorem altF_view (f : Nat → S25) (vs : List Int) (o : Int) (m i : Nat) (hi : i < m) : viewF (altF f vs o m) m o i = viewF f m o i := by
  rw [view_is _ _ _ _ hi, view_is _ _ _ _ hi, altF_f1]
  cases hh : hasB (f i).f1 o with
  | true => rw [if_pos rfl, if_pos rfl]; unfold altF; rw [if_neg (fun h => by have := h.2.2; rw [hh] at this; cases this)]
  | false => rw [if_neg (by decide), if_neg (by decide)]
theorem listF_congr {f h : Nat → S25} {m : Nat} (e : ∀ i, i < m → f i = h i) : listF f m = listF h m := List.map_congr_left fun i hi => e i (List.mem_range.1 hi)
theorem listF_get (f : Nat → S25) {m j : Nat} (h : j < (listF f m).length) : (listF f m)[j] = f j := by simp [listF]
/-- Alike for one: by boards, by lists. -/
theorem toR_view (f : Nat → S25) (m : Nat) (p : Int) : ((listF f m).map toR).map (viewR p) = (listF (viewF f m p) m).map toR := by
  unfold listF
  rw [List.map_map, List.map_map, List.map_map]
  refine List.map_congr_left fun i hi => ?_
  simp only [Function.comp]
  rw [view_is f m p i (List.mem_range.1 hi)]
  unfold viewR toR
  simp only
  split <;> rfl
theorem toR_inj {a b : S25} (h : toR a = toR b) : a = b := by
  cases a; cases b; unfold toR at h; simp at h; simp [h]
theorem same_lists (f h : Nat → S25) (m : Nat) (hm : m ≤ 48) (e : ∀ i, ¬ i < m → f i = h i) : sameB f h m m = sameL ((listF f m).map toR) ((listF h m).map toR) := by
  rw [Bool.eq_iff_iff, sameB_iff, sameL_iff]
  constructor
  · rintro ⟨h1, _⟩
    rw [listF_congr (fun i hi => h1 i (by omega))]
  · intro h1
    refine ⟨fun j _ => ?_, rfl⟩
    by_cases hj : j < m
    · have h2 : ((listF f m).map toR)[j]? = ((listF h m).map toR)[j]? := by rw [h1]
      unfold listF at h2
      rw [List.getElem?_map, List.getElem?_map, List.getElem?_map, List.getElem?_map, List.getElem?_range hj] at h2
      simp at h2
      exact toR_inj h2
    · exact e j hj
end Go.Proofs.Ytkjjmmgngdpppaa
