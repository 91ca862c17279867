/- The parts of this proof, one behind the other: contracts of the functions, plain laws, the walk. -/
import Derived.Test.YtkhlalpkkmjfnaaMfa
import Derived.Laws.Tables
import Derived.Laws.CopyOwn
import Derived.Test.YtkhlalpkkmjfnaaProg
import Derived.Below
import Derived.Deep.Draws
import Derived.Deep.AppendLies
import Derived.Maps.AppendAt
import Derived.OwnWalk
import Derived.Laws.BytesArg
import Derived.Laws.MakeOwn
import Derived.Laws.OwnMore
import Derived.Deep.OwnRows
import Derived.Tactics
import Derived.Lib.ConvBytes
import Derived.Laws.Slices
import Derived.WalkKit
import Derived.KernelRfl
import Derived.RowKit3
import Derived.Deep.LoopGhost
import Derived.Deep.QuietTactic
import Derived.BigQuiet
import Derived.WideLaws
import Derived.Deep.DeepCutAuto
import Derived.Deep.CutBlock
import Derived.Deep.RegionHeld3
import Derived.Laws.Rows
import Derived.Lib.AppendStr
import Derived.ArgAppend
import Derived.Laws.IdiomCopy
import Derived.OrdersHeld
import Derived.Laws.BitsLemmas
import Derived.RowKit
import Derived.Test.YtkhlalpkkmjfnaaWWords
import Derived.Test.YtkhlalpkkmjfnaaWLast
import Derived.Test.YtkhlalpkkmjfnaaWTab
import Derived.Test.YtkhlalpkkmjfnaaWFour
import Derived.Test.YtkhlalpkkmjfnaaWQPut
import Derived.Test.YtkhlalpkkmjfnaaWApart
import Derived.Test.YtkhlalpkkmjfnaaWArr
import Derived.Test.YtkhlalpkkmjfnaaWZeros
import Derived.Test.YtkhlalpkkmjfnaaWFoot
import Derived.Test.YtkhlalpkkmjfnaaWKept
import Derived.Test.YtkhlalpkkmjfnaaWShare
import Derived.Test.YtkhlalpkkmjfnaaWN
import Derived.Test.YtkhlalpkkmjfnaaWFootNe
import Derived.Test.YtkhlalpkkmjfnaaWAt
import Derived.Test.YtkhlalpkkmjfnaaWEqStruct
import Derived.Test.YtkhlalpkkmjfnaaWRepsOne
import Derived.Test.YtkhlalpkkmjfnaaWInv
import Derived.Test.YtkhlalpkkmjfnaaWInvWords
import Derived.Test.YtkhlalpkkmjfnaaWGuard
import Derived.Test.YtkhlalpkkmjfnaaWNEv
import Derived.Test.YtkhlalpkkmjfnaaWMore
import Derived.Laws.BitsAllLaws
import Derived.OpenShut
import Derived.Lib.SliceRun
import Derived.WalkSpells
namespace Go.Proofs.Ytkhlalpkkmjfnaa
open Go.RowKit Go.Proofs.YtkhlalpkkmjfnaaW.PrintWords Go.Proofs.YtkhlalpkkmjfnaaW.PrintLast Go.Proofs.YtkhlalpkkmjfnaaW.PrintMore
set_option linter.unusedVariables false

/-- The state on the way. -/
structure Inv2 (ops : Array Oper) (a0 : Act) (C : World → Prop) (V : Nat → World → Value → Prop) (X : Nat → World → (Nat → Value) → Prop) (L : Nat → Bool) (vs : Nat → Value) (a : Act) (w : World) : Prop where
  cls : C w
  defers : a.defers = a0.defers
  size : a.tmps.size = a0.tmps.size
  slot : ∀ s, a.tmps.getD s undef = look ops a0 L vs s
  val : ∀ i, i < ops.size → L i = true → V i w (vs i)
  ext : ∀ i, i < ops.size → L i = true → X i w vs
  closed : ∀ i o, ops[i]? = some o → L i = true → ∀ j, depOn o j = true → L j = true
section
variable {P : Program} {ops : Array Oper} {Q : Exit → Act → World → Prop} {a0 : Act} {C : World → Prop} {Step : World → World → Prop} {V : Nat → World → Value → Prop} {X : Nat → World → (Nat → Value) → Prop} {yv : Nat → Option Bool}
variable (hok : regionOk ops a0.tmps.size = true)
  (hrefl : ∀ w, Step w w)
  (hstab : ∀ i w w' v, i < ops.size → Step w w' → V i w v → V i w' v)
  (hstabX : ∀ i w w' vs, i < ops.size → Step w w' → X i w vs → X i w' vs)
  (hloc : ∀ i o w (vs vs' : Nat → Value), ops[i]? = some o → (∀ j, (j = i ∨ depOn o j = true) → vs j = vs' j) → X i w vs → X i w vs')
  (hyv : ∀ (i : Nat) (o : Oper) (j : Nat) (b : Bool), ops[i]? = some o → o.guard = some (j, b) → ∀ w v, V j w v → boolOf v = yv j)
  (hop : ∀ i o, ops[i]? = some o → ∀ (vs : Nat → Value) w, C w → (∀ j, depOn o j = true → V j w (vs j) ∧ X j w vs) →
    if wants yv o = true then runs P o (rho ops a0 (depOn o) vs) w (fun v w' => C w' ∧ Step w w' ∧ V i w' v ∧ X i w' (fun k => if k = i then v else vs k)) else V i w undef ∧ X i w (fun k => if k = i then undef else vs k))
  (hend : ∀ (vs : Nat → Value) w a, C w → (∀ i, i < ops.size → V i w (vs i)) → (∀ i, i < ops.size → X i w vs) → a.defers = a0.defers → a.tmps.size = a0.tmps.size → (∀ s, a.tmps.getD s undef = look ops a0 (fun _ => true) vs s) → Q .normal a w)
include hend in
theorem end_ok2 {listed : Array Bool} {vs : Nat → Value} {a : Act} {w : World} (hall : ∀ i, i < ops.size → listed.getD i false = true) (I : Inv2 ops a0 C V X (fun i => listed.getD i false) vs a w) : Q .normal a w :=
  hend vs w a I.cls (fun i hi => I.val i hi (hall i hi)) (fun i hi => I.ext i hi (hall i hi)) I.defers I.size (fun s => by rw [I.slot s]; exact look_all hall s)
include hok hrefl hstab hstabX hloc hyv hop hend in
theorem any_ok2 : ∀ (fuel : Nat) (listed : Array Bool) (vs : Nat → Value) (a : Act) (w : World), listed.size = ops.size → ((List.range ops.size).filter (fun i => !listed.getD i false)).length ≤ fuel →
    Inv2 ops a0 C V X (fun i => listed.getD i false) vs a w → wpAny P .any ops Q fuel listed a w
  | 0, listed, vs, a, w, hs, hc, I => by
    have hall : ∀ i, i < ops.size → listed.getD i false = true := by
      intro i hi
      cases hb : listed.getD i false with
      | true => rfl
      | false =>
        exfalso
        have hm : i ∈ (List.range ops.size).filter (fun i => !listed.getD i false) := List.mem_filter.2 ⟨List.mem_range.2 hi, by simp [hb]⟩
        have := List.length_pos_of_mem hm
        omega
    refine ⟨?_, end_ok2 hend hall I⟩
    rw [List.eq_nil_iff_forall_not_mem]
    intro j hj
    obtain ⟨h1, o, ho, _⟩ := mem_ready.1 hj
    have hjn : j < ops.size := (Array.getElem?_eq_some_iff.1 ho).1
    rw [getD_of_lt (by omega) true false, hall j hjn] at h1
    cases h1
  | fuel + 1, listed, vs, a, w, hs, hc, I => by
    refine ⟨fun hr => end_ok2 hend (all_listed hok hs hr) I, fun i hi => ?_⟩
    obtain ⟨h1, o, ho, hdeps⟩ := mem_ready.1 hi
    have hin : i < ops.size := (Array.getElem?_eq_some_iff.1 ho).1
    have hun : listed.getD i false = false := by rw [getD_of_lt (by omega) false true]; exact h1
    have F := fact_of hok ho
    have hdep : ∀ j, depOn o j = true → listed.getD j false = true := by
      intro j hj
      unfold depOn at hj
      rw [Array.any_eq_true'] at hj
      obtain ⟨e, he, hb⟩ := hj
      simp only [Bool.and_eq_true, beq_iff_eq] at hb
      obtain ⟨hb, rfl⟩ := hb
      exact hdeps e he hb
    have hV : ∀ j, depOn o j = true → V j w (vs j) := fun j hj => I.val j (by have := F.back j hj; omega) (hdep j hj)
    have hVX : ∀ j, depOn o j = true → V j w (vs j) ∧ X j w vs := fun j hj => ⟨hV j hj, I.ext j (by have := F.back j hj; omega) (hdep j hj)⟩
    -- what it reads
    have hlk : ∀ s, .tmp s ∈ o.op.operands → look ops a0 (fun i => listed.getD i false) vs s = look ops a0 (depOn o) vs s := by
      intro s hso
      unfold look
      rw [find_congr (q := fun k => depOn o k && dstOf ops k == some s)]
      intro k hk
      show (listed.getD k false && dstOf ops k == some s) = (depOn o k && dstOf ops k == some s)
      by_cases hd : dstOf ops k = some s
      · have e1 : listed.getD k false = depOn o k := by
          by_cases hki : k = i
          · subst hki
            rw [hun]
            cases hb : depOn o k with
            | false => rfl
            | true => exact absurd (F.back k hb) (by omega)
          · cases hb : depOn o k with
            | true => exact hdep k hb
            | false =>
              rcases F.reads s hso k hk hki hd with h | ⟨o', ho', h⟩
              · rw [hb] at h; cases h
              · cases hl : listed.getD k false with
                | false => rfl
                | true =>
                  have := I.closed k o' ho' hl i h
                  rw [hun] at this; cases this
        rw [e1]
      · have : (dstOf ops k == some s) = false := by simpa using hd
        rw [this, Bool.and_false, Bool.and_false]
    have hev : execOp a.eval o = execOp (rho ops a0 (depOn o) vs) o := by
      refine execOp_congr o F.sel fun x hx => ?_
      cases x with
      | tmp s =>
        show a.tmps.getD s undef = look ops a0 (depOn o) vs s
        rw [I.slot s]; exact hlk s hx
      | const v => rfl
      | global g => rfl
      | func f => rfl
    -- is it wanted
    have hw : Region.wanted o (yielded ops a.tmps) = wants yv o := by
      unfold Region.wanted wants
      cases hg : o.guard with
      | none => rfl
      | some jb =>
        obtain ⟨j, b⟩ := jb
        obtain ⟨hdj, hds⟩ := F.guard j b hg
        have hjn : j < ops.size := by have := F.back j hdj; omega
        obtain ⟨d, hd⟩ := Option.isSome_iff_exists.1 hds
        have Fj := fact_of hok (Array.getElem?_eq_getElem hjn)
        have hdj' : ops[j].dst = some d := by
          have := hd
          unfold dstOf at this
          rw [Array.getElem?_eq_getElem hjn] at this
          exact this
        have hsl : a.tmps.getD d undef = vs j := by
          rw [I.slot d]
          unfold look
          rw [find_unique (i := j) hjn (by simp only [hdep j hdj, hd, beq_self_eq_true, Bool.and_self]) (fun k hk hp => by
            by_cases e : k = j
            · exact e
            · simp only [Bool.and_eq_true, beq_iff_eq] at hp
              exact absurd hp.2 ((Fj.dst d hdj').2 k hk e))]
        have hdl : d < a.tmps.size := by rw [I.size]; exact (Fj.dst d hdj').1
        have hy : yielded ops a.tmps j = boolOf (vs j) := by
          unfold yielded
          have : (ops[j]?).bind (·.dst) = some d := hd
          rw [this]
          simp only [Option.bind_some]
          have e2 : a.tmps[d]? = some (vs j) := by
            rw [Array.getElem?_eq_getElem hdl]
            have : a.tmps.getD d undef = a.tmps[d] := by simp [Array.getD, hdl]
            rw [← this, hsl]
          rw [e2]
          cases vs j <;> rfl
        show (yielded ops a.tmps j == some b) = (yv j == some b)
        rw [hy, hyv i o j b ho hg w (vs j) (hV j hdj)]
    have hI : ∀ v w', C w' → Step w w' → V i w' v → X i w' (fun k => if k = i then v else vs k) → Inv2 ops a0 C V X (fun k => (listed.setIfInBounds i true).getD k false) (fun k => if k = i then v else vs k) (a.put o.dst v) w' := by
      intro v w' hC hS hVv hXv
      have hgi : (listed.setIfInBounds i true).getD i false = true := by simp [Array.getD, hs, hin]
      have hgo : ∀ k, k ≠ i → (listed.setIfInBounds i true).getD k false = listed.getD k false := fun k hk => getD_set_ne false (Ne.symm hk)
      refine ⟨hC, by rw [← I.defers]; cases o.dst <;> rfl, by rw [← I.size]; cases o.dst <;> simp [Act.put], fun s => ?_, fun k hk hl => ?_, fun k hk hl => ?_, fun k o' hk hl j hj => ?_⟩
      · by_cases hd : o.dst = some s
        · have Fd := F.dst s hd
          have e1 : (a.put o.dst v).tmps.getD s undef = v := by
            rw [hd]; simp [Act.put, Array.getD, I.size, Fd.1]
          rw [e1]
          unfold look
          rw [find_unique (i := i) hin (by simp only [hgi, dstOf, ho, Option.bind_some, hd, beq_self_eq_true, Bool.and_self]) (fun k hk hp => by
            by_cases e : k = i
            · exact e
            · simp only [Bool.and_eq_true, beq_iff_eq] at hp
              exact absurd hp.2 (Fd.2 k hk e))]
          simp
        · have e1 : (a.put o.dst v).tmps.getD s undef = a.tmps.getD s undef := by
            cases hdo : o.dst with
            | none => rfl
            | some d =>
              have hne : d ≠ s := fun e => hd (by rw [hdo, e])
              have := Act.eval_put (a := a) (dst := some d) (v := v) (x := .tmp s) (fun d' hd' => by cases hd'; intro e; cases e; exact hne rfl)
              exact this
          rw [e1, I.slot s]
          unfold look
          rw [find_congr (p := fun k => (listed.setIfInBounds i true).getD k false && dstOf ops k == some s) (q := fun k => listed.getD k false && dstOf ops k == some s) (fun k hk => by
            by_cases e : k = i
            · subst e
              have : (dstOf ops k == some s) = false := by simp only [dstOf, ho, Option.bind_some, beq_eq_false_iff_ne]; exact hd
              rw [this, Bool.and_false, Bool.and_false]
            · rw [hgo k e])]
          cases hf : (List.range ops.size).find? (fun k => listed.getD k false && dstOf ops k == some s) with
          | none => rfl
          | some k =>
            have hp := List.find?_some hf
            simp only [Bool.and_eq_true] at hp
            have : k ≠ i := fun e => by rw [e, hun] at hp; exact absurd hp.1 (by simp)
            simp [this]
      · by_cases e : k = i
        · subst e; simpa using hVv
        · simp only [e, if_false]
          exact hstab k w w' _ hk hS (I.val k hk (by rw [← hgo k e]; exact hl))
      · by_cases e : k = i
        · subst e; exact hXv
        · have hlk2 : listed.getD k false = true := by rw [← hgo k e]; exact hl
          refine hloc k ops[k] w' vs _ (Array.getElem?_eq_getElem hk) (fun j hj => ?_) (hstabX k w w' vs hk hS (I.ext k hk hlk2))
          have hji : j ≠ i := by
            rcases hj with rfl | hj
            · exact e
            · intro e2
              have := I.closed k ops[k] (Array.getElem?_eq_getElem hk) hlk2 j hj
              rw [e2, hun] at this; cases this
          simp [hji]
      · by_cases e : k = i
        · subst e
          have : o' = o := by rw [ho] at hk; exact (Option.some.inj hk).symm
          subst this
          have hlj := hdep j hj
          by_cases ej : j = k
          · rw [ej]; exact hgi
          · rw [hgo j ej]; exact hlj
        · have h2 := I.closed k o' hk (by rw [← hgo k e]; exact hl) j hj
          by_cases ej : j = i
          · rw [ej]; exact hgi
          · rw [hgo j ej]; exact h2
    have hc' : ((List.range ops.size).filter (fun k => !(listed.setIfInBounds i true).getD k false)).length ≤ fuel := by
      have := count_lt (l := List.range ops.size) (x := i) (p := fun k => !listed.getD k false) (q := fun k => !(listed.setIfInBounds i true).getD k false) (List.mem_range.2 hin) (by simp [hun]) (by simp [Array.getD, hs, hin]) (fun k hk => by
        by_cases e : k = i
        · subst e; simp [hun]
        · rw [getD_set_ne false (Ne.symm e)] at hk; exact hk)
      omega
    have hgo := hop i o ho vs w I.cls hVX
    unfold wpOp
    simp only [ho]
    rw [hw]
    by_cases hwt : wants yv o = true
    · rw [if_pos hwt] at hgo ⊢
      refine .inl (runs_wp hev ?_)
      have mono : ∀ {R R' : Value → World → Prop}, (∀ v w', R v w' → R' v w') → runs P o (rho ops a0 (depOn o) vs) w R → runs P o (rho ops a0 (depOn o) vs) w R' := by
        intro R R' hR h
        unfold runs at *
        split at h <;> first | exact hR _ _ h | exact Calls.mono h (fun e w'' ⟨v, he, hk⟩ => ⟨v, he, hR _ _ hk⟩) | exact h.elim
      exact mono (fun v w' ⟨h1, h2, h3, h4⟩ => any_ok2 fuel _ _ _ _ (by simp [hs]) hc' (hI v w' h1 h2 h3 h4)) hgo
    · rw [if_neg hwt] at hgo ⊢
      exact any_ok2 fuel _ _ _ _ (by simp [hs]) hc' (hI undef w I.cls (hrefl w) hgo.1 hgo.2)

theorem region_all2 {id : Nat} {w : World} (V : Nat → World → Value → Prop) (X : Nat → World → (Nat → Value) → Prop) (yv : Nat → Option Bool) (C : World → Prop) (Step : World → World → Prop) (D : List (Nat × Option Tmp)) (hm : P.follows .mixedOrders = true)
    (hok : regionOk ops a0.tmps.size = true) (hD : (List.range ops.size).map (fun i => (i, dstOf ops i)) = D)
    (hrefl : ∀ w, Step w w) (hstab : ∀ i w w' v, i < ops.size → Step w w' → V i w v → V i w' v)
    (hstabX : ∀ i w w' vs, i < ops.size → Step w w' → X i w vs → X i w' vs)
    (hloc : ∀ i o w (vs vs' : Nat → Value), ops[i]? = some o → (∀ j, (j = i ∨ depOn o j = true) → vs j = vs' j) → X i w vs → X i w vs')
    (hyv : ∀ (i : Nat) (o : Oper) (j : Nat) (b : Bool), ops[i]? = some o → o.guard = some (j, b) → ∀ w v, V j w v → boolOf v = yv j)
    (h0 : C w.drew)
    (hop : ∀ i o, ops[i]? = some o → ∀ (vs : Nat → Value) w, C w → (∀ j, depOn o j = true → V j w (vs j) ∧ X j w vs) →
      if wants yv o = true then runs P o (rho ops a0 (depOn o) vs) w (fun v w' => C w' ∧ Step w w' ∧ V i w' v ∧ X i w' (fun k => if k = i then v else vs k)) else V i w undef ∧ X i w (fun k => if k = i then undef else vs k))
    (hend : ∀ (vs : Nat → Value) w, C w → (∀ i, i < ops.size → V i w (vs i)) → (∀ i, i < ops.size → X i w vs) → Q .normal (putAll vs D a0) w) : (Code.region id ops true).wp P Q a0 w :=
  wp_region_any hm (any_ok2 hok hrefl hstab hstabX hloc hyv hop (fun vs w a hC hV hX h1 h2 h3 => by rw [frame_is hok hD h1 h2 h3]; exact hend vs w hC hV hX) ops.size (Array.replicate ops.size false) (fun _ => undef) a0 _ (by simp)
    (Nat.le_trans (List.length_filter_le _ _) (by simp)) ⟨h0, rfl, rfl, fun s => by
      unfold look
      have : (List.range ops.size).find? (fun i => (Array.replicate ops.size false).getD i false && dstOf ops i == some s) = none := by
        rw [List.find?_eq_none]
        intro k hk hc
        have hk := List.mem_range.1 hk
        simp [Array.getD, hk] at hc
      rw [this], fun i hi hl => by simp [Array.getD, hi] at hl, fun i hi hl => by simp [Array.getD, hi] at hl, fun i o ho hl => by
        have hi : i < ops.size := (Array.getElem?_eq_some_iff.1 ho).1
        simp [Array.getD, hi] at hl⟩)
end

/-! ### A variable that is made, and filled by a row -/
/-- The step of a world in which blocks from B on that read Z may have come to read F. -/
def Fills (B : Nat) (Z F : Obj) (w w' : World) : Prop := Below 0 w w' ∧ ∀ k, k < w.heap.size → w'.heap[k]? = w.heap[k]? ∨ (B ≤ k ∧ w.heap[k]? = some Z ∧ w'.heap[k]? = some F)
theorem Fills.of_below {B : Nat} {Z F : Obj} {w w' : World} (h : Below w.heap.size w w') : Fills B Z F w w' := ⟨h.mono (Nat.zero_le _), fun k hk => .inl (h.block k hk)⟩
/-- What holds of a block that reads neither Z nor F .. -/
theorem Fills.same {B : Nat} {Z F o : Obj} {w w' : World} (h : Fills B Z F w w') {k : Nat} (hk : w.heap[k]? = some o) (hne : o ≠ Z) : w'.heap[k]? = some o := by
  rcases h.2 k (blk_lt hk) with e | ⟨_, e, _⟩
  · rw [e]; exact hk
  · rw [hk] at e; exact absurd (Option.some.inj e) hne
theorem runs_store_row {P : Program} {o : Oper} {ρ : Operand → Value} {w : World} {R : Value → World → Prop} (ty : TypeId) (x y : Operand) (ho : o.op = .store ty x y)
    (g : Nat) (cs : Array Value) (hx : ρ x = .pointer (some ⟨g, 0, none⟩)) (hy : ρ y = .agg cs) (t : TypeId) (cur : Array Value) (hg : w.heap[g]? = some (.cells cur t (0, 0))) (hz : (P.info? ty).map (·.size) = some cs.size) (hs : cur.size = cs.size) (h1 : cs.all (fun v => v.oneCell') = true)
    (hR : R undef (w.setRow g cs)) : runs P o ρ w R := by
  unfold runs execOp
  simp only [ho, hx, hy, Instr.storeAt, Instr.sureAddr, Sem.run_bind, Sem.run_pure, Result.andThen_ok, run_storeVar_row w g t ty cur cs hg hz hs h1]
  exact hR

def StabF (B : Nat) (Z F : Obj) : List (World → Value → Prop) → Prop
  | [] => True
  | p :: l => (∀ (w w' : World) v, Fills B Z F w w' → p w v → p w' v) ∧ StabF B Z F l
theorem StabF.at_ {B : Nat} {Z F : Obj} (l : List (World → Value → Prop)) : ∀ (i : Nat), StabF B Z F l → ∀ (w w' : World) v, Fills B Z F w w' → (l.getD i fun _ _ => True) w v → (l.getD i fun _ _ => True) w' v := by
  induction l with
  | nil => intro i _ w w' v _ h; simp
  | cons p l ih =>
    intro i hs w w' v hb h
    cases i with
    | zero => exact hs.1 w w' v hb h
    | succ i => exact ih i hs.2 w w' v hb h
/-- A variable of which nothing is known but that it has been made, and may have been filled. -/
def Made (B : Nat) (Z F : Obj) (w : World) (v : Value) : Prop := ∃ g, v = .pointer (some ⟨g, 0, none⟩) ∧ B ≤ g ∧ (w.heap[g]? = some Z ∨ w.heap[g]? = some F)
theorem Made.stab {B : Nat} {Z F : Obj} (w w' : World) (v : Value) (hf : Fills B Z F w w') (h : Made B Z F w v) : Made B Z F w' v := by
  obtain ⟨g, e, hg, h⟩ := h
  refine ⟨g, e, hg, ?_⟩
  rcases h with h | h
  · rcases hf.2 g (blk_lt h) with e | ⟨_, _, e⟩
    · exact .inl (e.trans h)
    · exact .inr e
  · rcases hf.2 g (blk_lt h) with e | ⟨_, _, e⟩
    · exact .inr (e.trans h)
    · exact .inr e
/-- What is asked of operation i: but for the store. -/
def HopF (P : Program) (ops : Array Oper) (a0 : Act) (yv : Nat → Option Bool) (W : World) (ia is : Nat) (Z F : Array Value) (T : TypeId) (V : Nat → World → Value → Prop) (i : Nat) (o : Oper) : Prop :=
  ∀ (vs : Nat → Value) (w : World), Below W.heap.size W w → (∀ j, depOn o j = true → V j w (vs j)) →
    if i = is then ∀ g cur, vs ia = .pointer (some ⟨g, 0, none⟩) → w.heap[g]? = some (.cells cur T (0, 0)) → cur.size = F.size → runs P o (rho ops a0 (depOn o) vs) w (fun _ w' => w' = w.setRow g F)
    else if wants yv o = true then runs P o (rho ops a0 (depOn o) vs) w (fun v w' => Below w.heap.size w w' ∧ V i w' v) else V i w undef
def HopFAll (P : Program) (ops : Array Oper) (a0 : Act) (yv : Nat → Option Bool) (W : World) (ia is : Nat) (Z F : Array Value) (T : TypeId) (V : Nat → World → Value → Prop) : Nat → List Oper → Prop
  | _, [] => True
  | i, o :: l => HopF P ops a0 yv W ia is Z F T V i o ∧ HopFAll P ops a0 yv W ia is Z F T V (i + 1) l
theorem HopFAll.at_ {P : Program} {ops : Array Oper} {a0 : Act} {yv : Nat → Option Bool} {W : World} {ia is : Nat} {Z F : Array Value} {T : TypeId} {V : Nat → World → Value → Prop} (l : List Oper) : ∀ (k i : Nat) (o : Oper), HopFAll P ops a0 yv W ia is Z F T V k l → l[i]? = some o → HopF P ops a0 yv W ia is Z F T V (k + i) o := by
  induction l with
  | nil => intro k i o _ ho; simp at ho
  | cons o' l ih =>
    intro k i o h ho
    cases i with
    | zero =>
      have e : o' = o := by simpa using ho
      subst e
      exact h.1
    | succ i =>
      have h2 := ih (k + 1) i o h.2 (by simpa using ho)
      rw [show k + (i + 1) = k + 1 + i by omega]
      exact h2
theorem region_fill {P : Program} {ops : Array Oper} {Q : Exit → Act → World → Prop} {a0 : Act} {id : Nat} {W : World} (ia is : Nat) (Z F : Array Value) (T : TypeId) (Vl : List (World → Value → Prop)) (yv : Nat → Option Bool) (D : List (Nat × Option Tmp)) (G : List Nat)
    (hm : P.follows .mixedOrders = true) (hok : regionOk ops a0.tmps.size = true) (hD : (List.range ops.size).map (fun i => (i, dstOf ops i)) = D)
    (hG : (List.range ops.size).all (fun i => match (ops[i]?).bind (·.guard) with | some (j, _) => G.contains j | none => true) = true)
    (hdep : (match ops[is]? with | some o => depOn o ia && o.guard.isNone | none => false) = true) (hsz : Z.size = F.size)
    (hVa : (Vl.getD ia fun _ _ => True) = Made W.heap.size (.cells Z T (0, 0)) (.cells F T (0, 0))) (hVs : (Vl.getD is fun _ _ => True) = fun _ _ => True)
    (hyv : ∀ j, j ∈ G → ∀ w v, (Vl.getD j fun _ _ => True) w v → boolOf v = yv j)
    (hstab : StabF W.heap.size (.cells Z T (0, 0)) (.cells F T (0, 0)) Vl)
    (hop : HopFAll P ops a0 yv W ia is Z F T (fun i => Vl.getD i fun _ _ => True) 0 ops.toList)
    (hend : ∀ (vs : Nat → Value) w g, Below W.heap.size W w → (∀ i, i < ops.size → (Vl.getD i fun _ _ => True) w (vs i)) → vs ia = .pointer (some ⟨g, 0, none⟩) → W.heap.size ≤ g → w.heap[g]? = some (.cells F T (0, 0)) → Q .normal (putAll vs D a0) w) : (Code.region id ops true).wp P Q a0 W := by
  obtain ⟨os, hos⟩ : ∃ os, ops[is]? = some os := by
    cases h : ops[is]? with
    | none => rw [h] at hdep; cases hdep
    | some o => exact ⟨o, rfl⟩
  rw [hos] at hdep
  simp only [Bool.and_eq_true] at hdep
  have his : is < ops.size := (Array.getElem?_eq_some_iff.1 hos).1
  refine region_all2 (fun i => Vl.getD i fun _ _ => True) (fun i w vs => i = is → ∃ g, vs ia = .pointer (some ⟨g, 0, none⟩) ∧ W.heap.size ≤ g ∧ w.heap[g]? = some (.cells F T (0, 0))) yv (fun w => Below W.heap.size W w) (Fills W.heap.size (.cells Z T (0, 0)) (.cells F T (0, 0))) D hm hok hD
    (fun w => Fills.of_below (Below.refl _ _)) (fun i w w' v _ hb h => StabF.at_ _ i hstab w w' v hb h) ?_ ?_ ?_ (below_drew1 (Below.refl _ _)) ?_ ?_
  · intro i w w' vs _ hf hx hi
    obtain ⟨g, e, hg, h⟩ := hx hi
    refine ⟨g, e, hg, ?_⟩
    rcases hf.2 g (blk_lt h) with e2 | ⟨_, _, e2⟩
    · exact e2.trans h
    · exact e2
  · intro i o w vs vs' ho heq hx hi
    obtain ⟨g, e, hg, h⟩ := hx hi
    subst hi
    obtain rfl : o = os := Option.some.inj (ho.symm.trans hos)
    exact ⟨g, by rw [← heq ia (.inr hdep.1)]; exact e, hg, h⟩
  · intro i o j b ho hg w v hv
    have hi : i < ops.size := (Array.getElem?_eq_some_iff.1 ho).1
    have := range_all hG hi
    simp only [ho, Option.bind_some, hg] at this
    exact hyv j (by simpa using this) w v hv
  · intro i o ho vs w hC hV
    have h := HopFAll.at_ _ 0 i o hop (by simpa using ho) vs w hC (fun j hj => (hV j hj).1)
    rw [Nat.zero_add] at h
    have mono : ∀ {R R' : Value → World → Prop}, (∀ v w', R v w' → R' v w') → runs P o (rho ops a0 (depOn o) vs) w R → runs P o (rho ops a0 (depOn o) vs) w R' := by
      intro R R' hR h
      unfold runs at *
      split at h <;> first | exact hR _ _ h | exact Calls.mono h (fun e w'' ⟨v, he, hk⟩ => ⟨v, he, hR _ _ hk⟩) | exact h.elim
    by_cases hi : i = is
    · subst hi
      obtain rfl : o = os := Option.some.inj (ho.symm.trans hos)
      have hw : wants yv o = true := by
        unfold wants
        cases hg : o.guard with
        | none => rfl
        | some jb => rw [hg] at hdep; exact absurd hdep.2 (by simp)
      rw [if_pos rfl] at h
      rw [if_pos hw]
      have hVia := (hV ia hdep.1).1
      rw [hVa] at hVia
      obtain ⟨g, e, hg, hcur⟩ := hVia
      have hlt : g < w.heap.size := by rcases hcur with h | h <;> exact blk_lt h
      obtain ⟨cur, hcu, hcs⟩ : ∃ cur, w.heap[g]? = some (.cells cur T (0, 0)) ∧ cur.size = F.size := by
        rcases hcur with h | h
        · exact ⟨Z, h, hsz⟩
        · exact ⟨F, h, rfl⟩
      have hset : (w.setRow g F).heap[g]? = some (.cells F T (0, 0)) := setRow_heap _ _ _ _ _ _ hcu
      have hia : ia ≠ i := by
        have F0 := (fact_of hok ho).back ia hdep.1
        omega
      refine mono (fun v w' e2 => ?_) (h g cur e hcu hcs)
      subst e2
      refine ⟨below_setRow hC hg _, ⟨⟨rfl, rfl, rfl, by simp [World.setRow], fun k hk => by omega⟩, fun k hk => ?_⟩, by rw [hVs]; trivial, fun _ => ⟨g, by simp [hia, e], hg, hset⟩⟩
      by_cases hkg : k = g
      · subst hkg
        rcases hcur with h | h
        · exact .inr ⟨hg, h, hset⟩
        · exact .inl (hset.trans h.symm)
      · exact .inl (setRow_other _ _ _ _ hkg)
    · rw [if_neg hi] at h
      by_cases hw : wants yv o = true
      · rw [if_pos hw] at h ⊢
        exact mono (fun v w' ⟨h1, h2⟩ => ⟨below_step hC h1, Fills.of_below h1, h2, fun e => absurd e hi⟩) h
      · rw [if_neg hw] at h ⊢
        exact ⟨h, fun e => absurd e hi⟩
  · intro vs w hC hV hX
    obtain ⟨g, e, hg, h⟩ := hX is his rfl
    exact hend vs w g hC hV e hg h
end Go.Proofs.Ytkhlalpkkmjfnaa

namespace Go.Proofs.Ytkhlalpkkmjfnaa
open Go.RowKit Go.Proofs.YtkhlalpkkmjfnaaW.PrintWords Go.Proofs.YtkhlalpkkmjfnaaW.PrintLast Go.Proofs.YtkhlalpkkmjfnaaW.PrintMore
set_option linter.unusedVariables false

/-- The operations that write into old blocks: number, block, what else is known of the step. -/
abbrev Writes := List (Nat × Option Nat × (World → World → Prop))
def StepW : Writes → Nat → World → World → Prop
  | [], _, w, w' => Below w.heap.size w w'
  | (k, row, E) :: l, q, w, w' => if q = k then (w.grownBy w' row ∧ E w w') ∨ w' = w else StepW l q w w'
theorem StepW.refl : ∀ (l : Writes) (q : Nat) (w : World), StepW l q w w
  | [], _, w => Below.refl _ _
  | (k, row, E) :: l, q, w => by
    unfold StepW
    split
    · exact .inr rfl
    · exact StepW.refl l q w
/-- What outlives the steps of the others. -/
def StabW (i : Nat) (p : World → Value → Prop) : Writes → Prop
  | [] => ∀ w w' v, Below w.heap.size w w' → p w v → p w' v
  | (k, row, E) :: l => (k ≠ i → ∀ w w' v, w.grownBy w' row → E w w' → p w v → p w' v) ∧ StabW i p l
theorem StabW.step {i : Nat} {p : World → Value → Prop} : ∀ {l : Writes} {q : Nat} {w w' : World} {v : Value}, StabW i p l → i ≠ q → StepW l q w w' → p w v → p w' v
  | [], q, w, w', v, h, hne, hs, hp => h w w' v hs hp
  | (k, row, E) :: l, q, w, w', v, h, hne, hs, hp => by
    unfold StepW at hs
    split at hs
    · rename_i e
      rcases hs with ⟨hg, he⟩ | rfl
      · exact h.1 (fun e2 => hne (by rw [e, e2])) w w' v hg he hp
      · exact hp
    · exact h.2.step hne hs hp
theorem StabW.const {i : Nat} {p : Value → Prop} : ∀ (l : Writes), StabW i (fun _ v => p v) l
  | [] => fun _ _ _ _ h => h
  | (k, row, E) :: l => ⟨fun _ _ _ _ _ _ h => h, StabW.const l⟩
/-- .. until the operation is carried out. -/
def StabU (ops : Array Oper) (i : Nat) (p : World → Prop) : Writes → Prop
  | [] => ∀ w w', Below w.heap.size w w' → p w → p w'
  | (k, row, E) :: l => (k ≠ i → (∀ o, ops[k]? = some o → depOn o i = false) → ∀ w w', w.grownBy w' row → E w w' → p w → p w') ∧ StabU ops i p l
theorem StabU.step {ops : Array Oper} {i : Nat} {p : World → Prop} : ∀ {l : Writes} {q : Nat} {w w' : World} {o : Oper}, StabU ops i p l → i ≠ q → ops[q]? = some o → depOn o i = false → StepW l q w w' → p w → p w'
  | [], q, w, w', o, h, hne, ho, hd, hs, hp => h w w' hs hp
  | (k, row, E) :: l, q, w, w', o, h, hne, ho, hd, hs, hp => by
    unfold StepW at hs
    split at hs
    · rename_i e
      rcases hs with ⟨hg, he⟩ | rfl
      · refine h.1 (fun e2 => hne (by rw [e, e2])) (fun o2 ho2 => ?_) w w' hg he hp
        rw [← e, ho] at ho2
        rw [← Option.some.inj ho2]; exact hd
      · exact hp
    · exact h.2.step hne ho hd hs hp
theorem StabU.true {ops : Array Oper} {i : Nat} : ∀ (l : Writes), StabU ops i (fun _ => True) l
  | [] => fun _ _ _ h => h
  | (k, row, E) :: l => ⟨fun _ _ _ _ _ _ h => h, StabU.true l⟩
/-- An operation: what it tells (V), what is true of a value that it reads (X: j, and of what), what holds until it is carried out (U). -/
structure Op3 where
  V : World → Value → Prop
  X : Option (Nat × (World → Value → Prop))
  U : World → Prop
def op0 : Op3 := ⟨fun _ _ => True, none, fun _ => True⟩
def Op3.Xp (x : Op3) : World → (Nat → Value) → Prop := match x.X with | none => fun _ _ => True | some (j, p) => fun w vs => p w (vs j)
def Op3.stab (ops : Array Oper) (wr : Writes) (i : Nat) (x : Op3) : Prop :=
  StabW i x.V wr ∧ (match x.X with | none => True | some (j, p) => StabW i p wr ∧ (∀ o, ops[i]? = some o → depOn o j = true)) ∧ StabU ops i x.U wr
def stabAll (ops : Array Oper) (wr : Writes) : Nat → List Op3 → Prop
  | _, [] => True
  | i, x :: l => x.stab ops wr i ∧ stabAll ops wr (i + 1) l
theorem stabAll.at_ {ops : Array Oper} {wr : Writes} : ∀ (l : List Op3) (k i : Nat), stabAll ops wr k l → (l.getD i op0).stab ops wr (k + i)
  | [], k, i, _ => by
    have : ([] : List Op3).getD i op0 = op0 := by simp
    rw [this]
    exact ⟨StabW.const _, trivial, StabU.true _⟩
  | x :: l, k, 0, h => h.1
  | x :: l, k, i + 1, h => by
    have := stabAll.at_ l (k + 1) i h.2
    rw [List.getD_cons_succ]
    rw [show k + 1 + i = k + (i + 1) by omega] at this
    exact this
section
variable (P : Program) (ops : Array Oper) (a0 : Act) (yv : Nat → Option Bool) (C : World → Prop) (wr : Writes) (L : List Op3)
/-- What is owed for one operation. -/
def Hop3 (i : Nat) (o : Oper) : Prop :=
  ∀ (vs : Nat → Value) w, C w → (∀ j, depOn o j = true → (L.getD j op0).V w (vs j) ∧ (L.getD j op0).Xp w vs) → (L.getD i op0).U w → (∀ k o', ops[k]? = some o' → depOn o' i = true → (L.getD k op0).U w) →
    if wants yv o = true then runs P o (rho ops a0 (depOn o) vs) w (fun v w' => C w' ∧ StepW wr i w w' ∧ (L.getD i op0).V w' v ∧ (L.getD i op0).Xp w' (fun k => if k = i then v else vs k)) else (L.getD i op0).V w undef ∧ (L.getD i op0).Xp w (fun k => if k = i then undef else vs k)
def Hop3All : Nat → List Oper → Prop
  | _, [] => True
  | i, o :: l => Hop3 P ops a0 yv C wr L i o ∧ Hop3All (i + 1) l
end
theorem Hop3All.at_ {P : Program} {ops : Array Oper} {a0 : Act} {yv : Nat → Option Bool} {C : World → Prop} {wr : Writes} {L : List Op3} : ∀ (l : List Oper) (k i : Nat) (o : Oper), Hop3All P ops a0 yv C wr L k l → l[i]? = some o → Hop3 P ops a0 yv C wr L (k + i) o
  | [], k, i, o, _, h => by simp at h
  | x :: l, k, 0, o, h, ho => by
    obtain rfl : x = o := by simpa using ho
    exact h.1
  | x :: l, k, i + 1, o, h, ho => by
    have := Hop3All.at_ l (k + 1) i o h.2 (by simpa using ho)
    rw [show k + 1 + i = k + (i + 1) by omega] at this
    exact this
theorem region3 {P : Program} {ops : Array Oper} {Q : Exit → Act → World → Prop} {a0 : Act} {id : Nat} {W : World} (L : List Op3) (wr : Writes) (yv : Nat → Option Bool) (C : World → Prop) (D : List (Nat × Option Tmp)) (G : List Nat)
    (hm : P.follows .mixedOrders = true) (hok : regionOk ops a0.tmps.size = true) (hD : (List.range ops.size).map (fun i => (i, dstOf ops i)) = D) (hG : (ops.all fun o => match o.guard with | none => true | some (j, _) => G.contains j) = true)
    (h0 : C W.drew) (hU : ∀ i, i < ops.size → (L.getD i op0).U W.drew)
    (hyv : ∀ j ∈ G, ∀ w v, (L.getD j op0).V w v → boolOf v = yv j)
    (hst : stabAll ops wr 0 L) (hop : Hop3All P ops a0 yv C wr L 0 ops.toList)
    (hend : ∀ (vs : Nat → Value) w, C w → (∀ i, i < ops.size → (L.getD i op0).V w (vs i)) → (∀ i, i < ops.size → (L.getD i op0).Xp w vs) → Q .normal (putAll vs D a0) w) : (Code.region id ops true).wp P Q a0 W := by
  have hs : ∀ i, (L.getD i op0).stab ops wr i := fun i => by have := stabAll.at_ L 0 i hst; rwa [Nat.zero_add] at this
  refine region_all3 (fun i => (L.getD i op0).V) (fun i => (L.getD i op0).Xp) (fun i => (L.getD i op0).U) yv C (StepW wr) D hm hok hD (fun i w => StepW.refl wr i w) (fun q i w w' v _ hne hS hV => (hs i).1.step hne hS hV) ?_ ?_ ?_ ?_ h0 hU ?_ hend
  · intro q i w w' vs _ hne hS hX
    have h2 := (hs i).2.1
    unfold Op3.Xp at hX ⊢
    cases hx : (L.getD i op0).X with
    | none => trivial
    | some jp =>
      obtain ⟨j, p⟩ := jp
      rw [hx] at hX h2
      exact h2.1.step hne hS hX
  · intro q i o w w' ho hd _ hne hS hU'
    exact (hs i).2.2.step hne ho hd hS hU'
  · intro i o w vs vs' ho hv hX
    have h2 := (hs i).2.1
    unfold Op3.Xp at hX ⊢
    cases hx : (L.getD i op0).X with
    | none => trivial
    | some jp =>
      obtain ⟨j, p⟩ := jp
      rw [hx] at hX h2
      show p w (vs' j)
      rw [← hv j (.inr (h2.2 o ho))]
      exact hX
  · intro i o j b ho hgd w v hV
    refine hyv j ?_ w v hV
    rw [Array.all_eq_true'] at hG
    have := hG o (Array.mem_of_getElem? ho)
    rw [hgd] at this
    exact List.contains_iff_mem.1 this
  · intro i o ho
    have := Hop3All.at_ ops.toList 0 i o hop (by rw [Array.getElem?_toList]; exact ho)
    rw [Nat.zero_add] at this
    exact this

/-- An append to a row of one's own, under ρ. -/
theorem runs_append {P : Program} {α : Type} (d : Kd α) {Rr : α → List Value → Prop} {o : Oper} {ρ : Operand → Value} {W : World} {R : Value → World → Prop} (base : Nat) (s x : Tmp) (t e : TypeId) (z : Value) (bytes : Nat)
    (ho : o.op = .call { callee := .builtin .append, args := #[.tmp s, .tmp x], argTypes := #[t, t] })
    (ht : P.underlying t = some (.slice e)) (hinfo : (P.info? e).map (fun i => (i.zero, i.size, i.bytes)) = some (some z, d.sz, bytes)) (hz : z.cells.size = d.sz) (hs0 : 0 < d.sz) (hb0 : 0 < bytes)
    (v : Value) (xs ys : List α) (A : Option Addr) (m c : Nat) (ok okp : Nat → Prop) (hs : ρ (.tmp s) = v) (hx : ρ (.tmp x) = .slice A m c)
    (HO : d.R e W base ok v xs) (HR : ReadsRow Rr d.sz W A m ys) (hKM : ∀ x cs, Rr x cs → d.M W base okp x cs) (hokp : ∀ k, okp k → ok k ∧ some k ≠ v.ownBlock) (hfresh : ∀ k, W.heap.size ≤ k → ok k)
    (hbase : base ≤ W.heap.size) (hl : (xs.length + m) * bytes ≤ 140737488355328)
    (h : ∀ v1 w1, d.R e w1 base ok v1 (xs ++ ys) → W.grownBy w1 v.ownBlock → (v1.ownBlock = v.ownBlock ∨ ∃ b, v1.ownBlock = some b ∧ W.heap.size ≤ b) → R v1 w1) : runs P o ρ W R := by
  obtain ⟨N, hN, hN0, hN1⟩ : ∃ N : Act, N.tmps.size = 2 ∧ N.eval (.tmp 0) = v ∧ N.eval (.tmp 1) = .slice A m c := ⟨⟨#[v, .slice A m c], []⟩, rfl, rfl, rfl⟩
  let o' : Oper := { o with dst := some 0, guard := none, op := .call { callee := .builtin .append, args := #[.tmp 0, .tmp 1], argTypes := #[t, t] } }
  have key := Kd.R_append_rows_step (P := P) (o := o') (a := N) (ops := #[]) (Kc := fun a' w' => R (a'.tmps.getD 0 undef) w') (Q := fun _ _ _ => False) (w0 := W) d (Rr := Rr) base (by simp [Region.wanted, o']) (.tmp 0) (.tmp 1) t e z bytes rfl ht hinfo hz hs0 hb0 v xs ys A m c ok okp hN0 hN1 HO HR hKM hokp hfresh (Below.refl _ _) hbase hl
    (fun v1 w1 h1 _ h3 h4 => by
      have e0 : ((N.put o'.dst v1).tmps.getD 0 undef) = v1 := by simp [Act.put, o', Array.getD, hN]
      show R ((N.put o'.dst v1).tmps.getD 0 undef) w1
      rw [e0]; exact h v1 w1 h1 h3 h4)
  rw [if_pos (by simp [Region.wanted, o'])] at key
  have e0 : ∀ v1, ((N.put o'.dst v1).tmps.getD 0 undef) = v1 := fun v1 => by simp [Act.put, o', Array.getD, hN]
  unfold runs
  unfold Oper.wp at key
  have e1 : (execOp ρ o).run P W = ((Builtin.append_ #[t, t] o.type #[v, .slice A m c]).run P W).andThen (fun u w' => .ok (Next.value u) w') := by
    unfold execOp
    simp only [ho, resolve, invoke, builtin, Sem.run_bind, Sem.run_pure, Result.andThen_ok, List.map_toArray, List.map_cons, List.map_nil, hs, hx]
  have e2 : (execOp N.eval o').run P W = ((Builtin.append_ #[t, t] o.type #[v, .slice A m c]).run P W).andThen (fun u w' => .ok (Next.value u) w') := by
    unfold execOp
    simp only [o', resolve, invoke, builtin, Sem.run_bind, Sem.run_pure, Result.andThen_ok, List.map_toArray, List.map_cons, List.map_nil, hN0, hN1]
  rw [e1]
  rw [e2] at key
  generalize (Builtin.append_ #[t, t] o.type #[v, .slice A m c]).run P W = r at *
  cases r with
  | ok u w' =>
    simp only [Result.andThen_ok] at key ⊢
    rw [Oper.upon_value, e0] at key
    exact key
  | halt x w' => cases x <;> exact key.elim

theorem StepW.hit {q k : Nat} {row : Option Nat} {E : World → World → Prop} {w w' : World} (hg : w.grownBy w' row) (he : E w w') : ∀ {l : Writes}, l.find? (fun x => x.1 == q) = some (k, row, E) → StepW l q w w'
  | [], h => by simp at h
  | (k2, row2, E2) :: l, h => by
    unfold StepW
    by_cases e : q = k2
    · rw [if_pos e]
      rw [List.find?_cons_of_pos (by simp [e])] at h
      obtain ⟨rfl, rfl, rfl⟩ := by simpa using h
      exact .inl ⟨hg, he⟩
    · rw [if_neg e]
      rw [List.find?_cons_of_neg (by simp; omega)] at h
      exact StepW.hit hg he h
theorem StepW.miss {q : Nat} {w w' : World} (hb : Below w.heap.size w w') : ∀ {l : Writes}, (l.any fun x => x.1 == q) = false → StepW l q w w'
  | [], h => hb
  | (k2, row2, E2) :: l, h => by
    rw [List.any_cons, Bool.or_eq_false_iff] at h
    unfold StepW
    rw [if_neg (by simpa using (fun e : q = k2 => by rw [e] at h; simp at h))]
    exact StepW.miss hb h.2
theorem grown_setCell (w : World) (g j : Nat) (u : Value) : w.grownBy (w.setCell ⟨g, j, none⟩ u) (some g) := ⟨rfl, rfl, rfl, by simp [World.setCell], fun k _ hk => Below.heap_setCell _ _ _ _ (fun e => hk (by rw [e]))⟩
theorem grown_setRow (w : World) (g : Nat) (cs : Array Value) : w.grownBy (w.setRow g cs) (some g) := ⟨rfl, rfl, rfl, by simp [World.setRow], fun k _ hk => setRow_other _ _ _ _ (fun e => hk (by rw [e]))⟩
end Go.Proofs.Ytkhlalpkkmjfnaa

namespace Go.Proofs.Ytkhlalpkkmjfnaa
open Go.RowKit Go.Proofs.YtkhlalpkkmjfnaaW.PrintWords Go.Proofs.YtkhlalpkkmjfnaaW.PrintLast Go.Proofs.YtkhlalpkkmjfnaaW.PrintMore
set_option linter.unusedVariables false

def Cl2 (B : Nat) (W : World) (gd : Nat) (T : TypeId) (x0 x1 : Value) (rP rC : Option Nat) (z : World) : Prop :=
  Below B W z ∧ (∃ c2 c3, z.heap[gd]? = some (.cells #[x0, x1, c2, c3] T (0, 0))) ∧ B ≤ W.heap.size ∧ ∀ k, k < W.heap.size → k ≠ gd → some k ≠ rP → some k ≠ rC → z.heap[k]? = W.heap[k]?
section
variable {B gd : Nat} {W z z' : World} {T : TypeId} {x0 x1 : Value} {rP rC : Option Nat}
theorem Cl2.le (h : Cl2 B W gd T x0 x1 rP rC z) : B ≤ z.heap.size := Nat.le_trans h.2.2.1 h.1.size
theorem Cl2.below (h : Cl2 B W gd T x0 x1 rP rC z) (hb : Below z.heap.size z z') : Cl2 B W gd T x0 x1 rP rC z' := by
  obtain ⟨c2, c3, h2⟩ := h.2.1
  exact ⟨h.1.trans (hb.mono h.le), ⟨c2, c3, blk_below h2 hb⟩, h.2.2.1, fun k hk h1 h2 h3 => (hb.block k (Nat.lt_of_lt_of_le hk h.1.size)).trans (h.2.2.2 k hk h1 h2 h3)⟩
theorem Cl2.row {row : Option Nat} (h : Cl2 B W gd T x0 x1 rP rC z) (hg : z.grownBy z' row) (hr : row = rP ∨ row = rC) (hb : ∀ k, row = some k → B ≤ k) (hne : some gd ≠ row) : Cl2 B W gd T x0 x1 rP rC z' := by
  obtain ⟨c2, c3, h2⟩ := h.2.1
  refine ⟨h.1.grown hg h.le hb, ⟨c2, c3, (hg.block gd (blk_lt h2) hne).trans h2⟩, h.2.2.1, fun k hk h1 h2 h3 => (hg.block k (Nat.lt_of_lt_of_le hk h.1.size) (fun e => ?_)).trans (h.2.2.2 k hk h1 h2 h3)⟩
  rcases hr with hr | hr
  · exact h2 (by rw [e, hr])
  · exact h3 (by rw [e, hr])
theorem Cl2.set2 (h : Cl2 B W gd T x0 x1 rP rC z) (u : Value) (hbg : B ≤ gd) : Cl2 B W gd T x0 x1 rP rC (z.setCell ⟨gd, 2, none⟩ u) := by
  obtain ⟨c2, c3, h2⟩ := h.2.1
  exact ⟨h.1.setCell hbg _, ⟨u, c3, blk_set h2 2 u⟩, h.2.2.1, fun k hk h1 h2 h3 => (Below.heap_setCell _ _ _ _ h1).trans (h.2.2.2 k hk h1 h2 h3)⟩
theorem Cl2.set3 (h : Cl2 B W gd T x0 x1 rP rC z) (u : Value) (hbg : B ≤ gd) : Cl2 B W gd T x0 x1 rP rC (z.setCell ⟨gd, 3, none⟩ u) := by
  obtain ⟨c2, c3, h2⟩ := h.2.1
  exact ⟨h.1.setCell hbg _, ⟨c2, u, blk_set h2 3 u⟩, h.2.2.1, fun k hk h1 h2 h3 => (Below.heap_setCell _ _ _ _ h1).trans (h.2.2.2 k hk h1 h2 h3)⟩
end
/-- The same heap, with other rows beside it. -/
theorem Hp.rows {B g : Nat} {w0 W W1 : World} {o o' : Obj} {L : List (Nat × Obj)} {r1 r2 : Option Nat} (h : Hp B w0 W ((g, o) :: L) []) (hb : Below B W W1) (hg : W1.heap[g]? = some o')
    (hk : ∀ k, k < W.heap.size → k ≠ g → some k ≠ r1 → some k ≠ r2 → W1.heap[k]? = W.heap[k]?) (hr : ∀ p ∈ L, some p.1 ≠ r1 ∧ some p.1 ≠ r2) : Hp B w0 W1 ((g, o') :: L) [] := by
  refine ⟨h.1.trans hb, fun p hp => ?_, ?_, Nat.le_trans h.le hb.size, fun φ hφ => by cases hφ⟩
  · rcases List.mem_cons.1 hp with rfl | hp
    · exact ⟨hg, h.ge (i := 0) rfl⟩
    · obtain ⟨i, hi⟩ := List.getElem?_of_mem hp
      have hi1 : ((g, o) :: L)[i + 1]? = some (p.1, p.2) := by simpa using hi
      refine ⟨(hk p.1 (h.lt hi1) (fun e => ?_) (hr p hp).1 (hr p hp).2).trans (h.get hi1), h.ge hi1⟩
      have := h.2.2.1 (i + 1) 0 p (g, o) (by simpa using hi) rfl e
      omega
  · intro i j p q hi hj he
    have key : ∀ (c : Nat) (r : Nat × Obj), ((g, o') :: L)[c]? = some r → ∃ r', ((g, o) :: L)[c]? = some r' ∧ r'.1 = r.1 := by
      intro c r hc
      match c, hc with
      | 0, hc => exact ⟨_, rfl, by rw [← Option.some.inj hc]⟩
      | c + 1, hc => exact ⟨r, hc, rfl⟩
    obtain ⟨p', hp1, hp2⟩ := key i p hi
    obtain ⟨q', hq1, hq2⟩ := key j q hj
    exact h.2.2.1 i j p' q' hp1 hq1 (hp2.trans (he.trans hq2.symm))
/-- Where two rows and a block lie: apart. -/
structure Apart2 (z : World) (gd : Nat) (vP vC : Value) : Prop where
  gp : some gd ≠ vP.ownBlock
  gc : some gd ≠ vC.ownBlock
  pc : ∀ k, vP.ownBlock = some k → some k ≠ vC.ownBlock
  new : ∀ b, z.heap.size ≤ b → some b ≠ vP.ownBlock ∧ some b ≠ vC.ownBlock ∧ some b ≠ some gd
section
variable {z : World} {gd : Nat} {vP vC : Value}
theorem Apart2.mk' {α β : Type} {d1 : Kd α} {d2 : Kd β} {e1 e2 t B : Nat} {xs : List α} {ys : List β} {cs : Array Value} (h1 : d1.R e1 z B (fun _ => True) vP xs) (h2 : d2.R e2 z B (fun _ => True) vC ys) (hg : z.heap[gd]? = some (.cells cs t (0, 0)))
    (n1 : e1 ≠ t) (n2 : e2 ≠ t) (n3 : ∀ q, q ∈ e1 :: d1.E → q ≠ e2) : Apart2 z gd vP vC :=
  ⟨Kd.R_ne h1 hg n1, Kd.R_ne h2 hg n2, fun k hk => ((Kd.R_apartR h1 h2 n3).1 k hk).2, fun b hb => ⟨fun e => by have := Kd.R_lt h1 b e.symm; omega, fun e => by have := Kd.R_lt h2 b e.symm; omega, fun e => by have := blk_lt hg; injection e; omega⟩⟩
theorem Apart2.newP (h : Apart2 z gd vP vC) {v : Value} (hv : v.ownBlock = vP.ownBlock ∨ ∃ b, v.ownBlock = some b ∧ z.heap.size ≤ b) : (∀ k, vC.ownBlock = some k → some k ≠ v.ownBlock) ∧ (∀ k, some gd = some k → some k ≠ v.ownBlock) := by
  refine ⟨fun k hk e => ?_, fun k hk e => ?_⟩
  · rcases hv with h' | ⟨b, h', hb⟩
    · exact h.pc k (by rw [← h', ← e]) hk.symm
    · exact (h.new b hb).2.1 (by rw [← h', ← e, hk])
  · rcases hv with h' | ⟨b, h', hb⟩
    · exact h.gp (by rw [hk, e, h'])
    · exact (h.new b hb).2.2 (by rw [← h', ← e, hk])
theorem Apart2.newC (h : Apart2 z gd vP vC) {v : Value} (hv : v.ownBlock = vC.ownBlock ∨ ∃ b, v.ownBlock = some b ∧ z.heap.size ≤ b) : (∀ k, vP.ownBlock = some k → some k ≠ v.ownBlock) ∧ (∀ k, some gd = some k → some k ≠ v.ownBlock) := by
  refine ⟨fun k hk e => ?_, fun k hk e => ?_⟩
  · rcases hv with h' | ⟨b, h', hb⟩
    · exact h.pc k hk (by rw [← h', ← e])
    · exact (h.new b hb).1 (by rw [← h', ← e, hk])
  · rcases hv with h' | ⟨b, h', hb⟩
    · exact h.gc (by rw [hk, e, h'])
    · exact (h.new b hb).2.2 (by rw [← h', ← e, hk])
end
theorem delta_one {P_ C_ : Value} {B e1 e2 : Nat} {α β : Type} {d1 : Kd α} {d2 : Kd β} {W : World} {xs : List α} {ys : List β} (tk hs : Int) (h1 : d1.R e1 W B (fun _ => True) P_ xs) (h2 : d2.R e2 W B (fun _ => True) C_ ys) : (#[.int .u32 tk, .int .u32 hs, P_, C_] : Array Value).all (fun v => v.oneCell') = true := by
  obtain ⟨A, c, rfl⟩ := Kd.R_slice h1
  obtain ⟨A2, c2, rfl⟩ := Kd.R_slice h2
  simp [Value.oneCell']
end Go.Proofs.Ytkhlalpkkmjfnaa

namespace Go.Proofs.Ytkhlalpkkmjfnaa
open Go.RowKit Go.Proofs.YtkhlalpkkmjfnaaW.PrintWords Go.Proofs.YtkhlalpkkmjfnaaW.PrintLast Go.Proofs.YtkhlalpkkmjfnaaW.PrintMore
attribute [local go_sem] max2_int min2_int max_two min_two max_three min_three max_four min_four   -- for this text's walks alone
set_option linter.unusedVariables false
set_option linter.unusedSimpArgs false

/-! ### hoodwinkref06_Bytes: function 50 -/
def hoodwinkref06_Bytes.f (k : Nat) (a0_0 : Int) (a0_1 : Int) : Option (List Int) := (hoodwinkref01_Low.f k ((a0_0) % 4294967296) 4).bind fun t157 => ((hoodwinkref01_Low.f k (IntKind.u64.wrap (a0_1)) 4).bind fun t160 => ((hoodwinkref01_Join.f k (([t157, t160] : List (List Int)))).bind fun t166 => (some t166)))
theorem hoodwinkref06_Bytes.mono : ∀ a0 a1 k, LeO (hoodwinkref06_Bytes.f k a0 a1) (hoodwinkref06_Bytes.f (k + 1) a0 a1) := by
  intro a0 a1 k
  unfold hoodwinkref06_Bytes.f
  repeat' first
      | (with_reducible exact hoodwinkref01_Join.mono _ _)
      | (with_reducible exact hoodwinkref01_Low.mono _ _ _)
      | (with_reducible exact LeO.refl _)
      | (with_reducible exact LeO.none _)
      | (with_reducible refine LeO.ite ?_ ?_)
      | (with_reducible refine LeO.bind ?_ (fun _ => ?_))
      | exact hoodwinkref01_Join.mono _ _
      | exact hoodwinkref01_Low.mono _ _ _
      | exact LeO.none _
      | refine LeO.ite ?_ ?_
      | refine LeO.bind ?_ (fun _ => ?_)
def hoodwinkref06_Bytes.T1 : Bool × List (List Nat × List Nat) := (true, [([], []), ([0], [0]), ([1], [1]), ([2], [2]), ([3], [3]), ([], []), ([5], [5]), ([6], [6]), ([7, 4], [7]), ([4, 8], [4, 8]), ([9, 8], [9]), ([10, 10, 0, 1, 2, 3, 4, 5, 6, 7, 8, 9, 10], [10])])
def hoodwinkref06_Bytes.B1 : List Nat := [0, 1, 3, 7, 15, 0, 32, 96, 255, 511, 1023, 2047]
theorem hoodwinkref06_Bytes.tab1 : rtab .any (opsOf Try.f50 1) = hoodwinkref06_Bytes.T1 := by kernel_rfl
theorem hoodwinkref06_Bytes.bits1 : waitsOk hoodwinkref06_Bytes.T1.2 hoodwinkref06_Bytes.B1 = true := by kernel_rfl
end Go.Proofs.Ytkhlalpkkmjfnaa

namespace Go.Proofs.Ytkhlalpkkmjfnaa
open Go.RowKit Go.Proofs.YtkhlalpkkmjfnaaW.PrintWords Go.Proofs.YtkhlalpkkmjfnaaW.PrintLast Go.Proofs.YtkhlalpkkmjfnaaW.PrintMore
set_option linter.unusedVariables false
set_option linter.unusedSimpArgs false

theorem rounds_up {f : Nat → Option (List Int)} (hm : ∀ k, LeO (f k) (f (k + 1))) {k : Nat} {r : List Int} (h : f k = some r) : ∀ n, f (k + n) = some r
  | 0 => h
  | n + 1 => hm (k + n) r (rounds_up hm h n)
/-- A cell's bytes. -/
def cellN (a b : Nat) : List Int := lowN a 4 ++ lowN b 4
theorem bytes_f (k : Nat) (a b : Int) (x y : Nat) (hx : a % 4294967296 = x) (hy : IntKind.u64.wrap b = y) (hxl : x ≤ 18446744073709551615) (hyl : y ≤ 18446744073709551615) : hoodwinkref06_Bytes.f (k + 10) a b = some (cellN x y) := by
  unfold hoodwinkref06_Bytes.f
  have low : ∀ z : Nat, z ≤ 18446744073709551615 → hoodwinkref01_Low.f (k + 10) (z : Int) 4 = some (lowN z 4) := fun z hz => by
    have := low_l0 4 (by omega) 4 (k + 10) 0 z [] (by omega) (by omega) hz rfl
    simpa [hoodwinkref01_Low.f] using this
  have join : hoodwinkref01_Join.f (k + 10) [lowN x 4, lowN y 4] = some (cellN x y) := by
    have := join_l0 [lowN x 4, lowN y 4] (by simp [lowN_length]) (by simp) 2 (k + 10) 0 (by simp) (by omega)
    simpa [hoodwinkref01_Join.f, cellN] using this
  rw [hx, hy, low x hxl]
  show ((hoodwinkref01_Low.f (k + 10) (y : Int) 4).bind fun t150 => ((hoodwinkref01_Join.f (k + 10) [lowN x 4, t150]).bind fun t156 => some t156)) = _
  rw [low y hyl]
  show ((hoodwinkref01_Join.f (k + 10) [lowN x 4, lowN y 4]).bind fun t156 => some t156) = _
  rw [join]; rfl
set_option maxHeartbeats 8000000 in
set_option maxRecDepth 100000 in
theorem bytes_any (a b : Int) (x y : Nat) (hx : a % 4294967296 = x) (hy : IntKind.u64.wrap b = y) (hxl : x ≤ 18446744073709551615) (hyl : y ≤ 18446744073709551615) (w : World) :
    Calls Try.prog 50 #[.agg #[.int .i32 a, .int .u32 b]] w fun e w' => ∃ v, e = .returned v ∧ (Kd.int .u8).R 5 w' w.heap.size (fun _ => True) v (cellN x y) ∧ Below w.heap.size w w' := by
  have g0 : (w.alloc (.cells #[.int .i32 a, .int .u32 b] 89)).heap[w.heap.size]? = some (.cells #[.int .i32 a, .int .u32 b] 89 (0, 0)) := blk_new _ _
  have hal := below_alloc (Below.refl w.heap.size w) (.cells #[.int .i32 a, .int .u32 b] 89)
  obtain ⟨W, hW⟩ : ∃ W, w.alloc (.cells #[.int .i32 a, .int .u32 b] 89) = W := ⟨_, rfl⟩
  rw [hW] at g0 hal
  have G0 := Aside0.mk g0
  have HAL := Aside0.mk hal
  have HLE := Aside0.mk hal.size
  have HW := Aside0.mk hW
  have HX := Aside0.mk hx
  have HY := Aside0.mk hy
  have HZL := Aside0.mk (And.intro hxl hyl)
  clear g0 hal hW hx hy hxl hyl
  go_enter Try.func50, Try.ntmps50
  go_wp2_with fail
  rw [HW.out]
  clear HW
  generalize hgs : w.heap.size = gs at *
  have HGS := Aside0.mk hgs
  clear hgs
  refine region_grown (W := W)
    [fun (w : World) (v : Value) => v = .pointer (some ⟨gs, 0, none⟩),
     fun (w : World) (v : Value) => v = .int .i32 a,
     fun (w : World) (v : Value) => v = .int .u32 x,
     fun (w : World) (v : Value) => v = .int .u64 x,
     fun (w : World) (v : Value) => ∃ A c, v = .slice A 4 c ∧ 4 ≤ c ∧ (Kd.int .u8).C w A 4 (lowN x 4),
     fun (w : World) (v : Value) => v = .pointer (some ⟨gs, 1, none⟩),
     fun (w : World) (v : Value) => v = .int .u32 b,
     fun (w : World) (v : Value) => v = .int .u64 y,
     fun (w : World) (v : Value) => ∃ A c, v = .slice A 4 c ∧ 4 ≤ c ∧ (Kd.int .u8).C w A 4 (lowN y 4),
     fun (w : World) (v : Value) => ∃ A, v = .slice A 2 2 ∧ (Kd.slice 5 (Kd.int .u8)).C w A 2 [lowN x 4, lowN y 4],
     fun (w : World) (v : Value) => (Kd.int .u8).R 5 w W.heap.size (fun _ => True) v (cellN x y),
     fun (w : World) (v : Value) => (Kd.int .u8).R 5 w W.heap.size (fun _ => True) v (cellN x y)]
    (fun j =>  none)
    [(0, some 3), (1, some 4), (2, some 5), (3, some 6), (4, some 7), (5, some 8), (6, some 9), (7, some 10), (8, some 11), (9, some 12), (10, some 13), (11, some 2)]
    []
    (by kernel_rfl) (by kernel_rfl) (by kernel_rfl) (by kernel_rfl) ?r1_1g ?r1_1s ⟨?r1_1o0, ?r1_1o1, ?r1_1o2, ?r1_1o3, ?r1_1o4, ?r1_1o5, ?r1_1o6, ?r1_1o7, ?r1_1o8, ?r1_1o9, ?r1_1o10, ?r1_1o11, trivial⟩ ?r1_1e
  case r1_1g =>
    intro j hj; cases hj
  case r1_1s =>
    refine ⟨(fun w w' v hb h => h), (fun w w' v hb h => h), (fun w w' v hb h => h), (fun w w' v hb h => h), (fun w w' v hb h => let ⟨A, c, h1, h2, h3⟩ := h; ⟨A, c, h1, h2, Kd.C_below h3 hb⟩), (fun w w' v hb h => h), (fun w w' v hb h => h), (fun w w' v hb h => h), (fun w w' v hb h => let ⟨A, c, h1, h2, h3⟩ := h; ⟨A, c, h1, h2, Kd.C_below h3 hb⟩), (fun w w' v hb h => let ⟨A, h1, h2⟩ := h; ⟨A, h1, Kd.C_below h2 hb⟩), (fun w w' v hb h => Kd.R_below h hb), (fun w w' v hb h => Kd.R_below h hb), trivial⟩
  case r1_1o0 =>
    intro vs w hb hV
    rw [if_pos (by kernel_rfl)]
    generalize hρ : rho _ _ _ vs = ρ
    have e1 : ρ (.tmp 1) = .pointer (some ⟨gs, 0, none⟩) := by rw [← hρ]; kernel_rfl
    clear hρ hV
    refine runs_val (v := .pointer (some ⟨gs, 0, none⟩)) (w' := w) ?_ ⟨Below.refl _ _, rfl⟩
    go_simp <;> (first | exact IntWalk.u64_in _ (by omega) | exact IntWalk.u32_in _ (by omega) | exact IntWalk.u16_in _ (by omega) | exact IntWalk.u8_in _ (by omega) | exact IntWalk.i64_in _ (by omega) | skip)
  case r1_1o1 =>
    intro vs w hb hV
    rw [if_pos (by kernel_rfl)]
    generalize hρ : rho _ _ _ vs = ρ
    have d3 : (vs 0) = .pointer (some ⟨gs, 0, none⟩) := hV 0 (by kernel_rfl)
    have e3 : ρ (.tmp 3) = vs 0 := by rw [← hρ]; kernel_rfl
    rw [d3] at e3; clear d3
    clear hρ hV
    have c0 := pw_cell_below hb (blk_cell G0.out 0)
    refine runs_val (v := .int .i32 a) (w' := w) ?_ ⟨Below.refl _ _, rfl⟩
    go_simp
  case r1_1o2 =>
    intro vs w hb hV
    rw [if_pos (by kernel_rfl)]
    generalize hρ : rho _ _ _ vs = ρ
    have d4 : (vs 1) = .int .i32 a := hV 1 (by kernel_rfl)
    have e4 : ρ (.tmp 4) = vs 1 := by rw [← hρ]; kernel_rfl
    rw [d4] at e4; clear d4
    clear hρ hV
    refine runs_val (v := .int .u32 x) (w' := w) ?_ ⟨Below.refl _ _, rfl⟩
    go_simp
    rw [IntKind.wrap_u32']; exact HX.out
  case r1_1o3 =>
    intro vs w hb hV
    rw [if_pos (by kernel_rfl)]
    generalize hρ : rho _ _ _ vs = ρ
    have d5 : (vs 2) = .int .u32 x := hV 2 (by kernel_rfl)
    have e5 : ρ (.tmp 5) = vs 2 := by rw [← hρ]; kernel_rfl
    rw [d5] at e5; clear d5
    clear hρ hV
    refine runs_val (v := .int .u64 x) (w' := w) ?_ ⟨Below.refl _ _, rfl⟩
    go_simp
    exact IntWalk.u64_in _ (by have := HZL.out; omega)
  case r1_1o4 =>
    intro vs w hb hV
    rw [if_pos (by kernel_rfl)]
    generalize hρ : rho _ _ _ vs = ρ
    have d6 : (vs 3) = .int .u64 x := hV 3 (by kernel_rfl)
    have e6 : ρ (.tmp 6) = vs 3 := by rw [← hρ]; kernel_rfl
    rw [d6] at e6; clear d6
    have ef49 : ρ (.func 49) = .func (.func 49) #[] #[] := by rw [← hρ]; rfl
    have econ : ∀ v : Value, ρ (.const v) = v := fun v => by rw [← hρ]; rfl
    clear hρ hV
    refine runs_call (f := 49) (args := #[.int .u64 x, .int .i64 4]) (w' := w) ?_ ?_
    · go_simp
    · refine (low_any x 4 w HZL.out.1 (by omega)).mono ?_
      rintro e w5 ⟨v, rfl, hv, hb5⟩
      obtain ⟨A1, c1, e1, e2, e3⟩ := Kd.R_reads hv
      rw [lowN_length] at e1 e2 e3
      exact ⟨_, rfl, hb5, A1, c1, e1, e2, e3⟩
  case r1_1o5 =>
    intro vs w hb hV
    rw [if_pos (by kernel_rfl)]
    generalize hρ : rho _ _ _ vs = ρ
    have e1 : ρ (.tmp 1) = .pointer (some ⟨gs, 0, none⟩) := by rw [← hρ]; kernel_rfl
    clear hρ hV
    refine runs_val (v := .pointer (some ⟨gs, 1, none⟩)) (w' := w) ?_ ⟨Below.refl _ _, rfl⟩
    go_simp <;> (first | exact IntWalk.u64_in _ (by omega) | exact IntWalk.u32_in _ (by omega) | exact IntWalk.u16_in _ (by omega) | exact IntWalk.u8_in _ (by omega) | exact IntWalk.i64_in _ (by omega) | skip)
  case r1_1o6 =>
    intro vs w hb hV
    rw [if_pos (by kernel_rfl)]
    generalize hρ : rho _ _ _ vs = ρ
    have d8 : (vs 5) = .pointer (some ⟨gs, 1, none⟩) := hV 5 (by kernel_rfl)
    have e8 : ρ (.tmp 8) = vs 5 := by rw [← hρ]; kernel_rfl
    rw [d8] at e8; clear d8
    clear hρ hV
    have c0 := pw_cell_below hb (blk_cell G0.out 1)
    refine runs_val (v := .int .u32 b) (w' := w) ?_ ⟨Below.refl _ _, rfl⟩
    go_simp
  case r1_1o7 =>
    intro vs w hb hV
    rw [if_pos (by kernel_rfl)]
    generalize hρ : rho _ _ _ vs = ρ
    have d9 : (vs 6) = .int .u32 b := hV 6 (by kernel_rfl)
    have e9 : ρ (.tmp 9) = vs 6 := by rw [← hρ]; kernel_rfl
    rw [d9] at e9; clear d9
    clear hρ hV
    refine runs_val (v := .int .u64 y) (w' := w) ?_ ⟨Below.refl _ _, rfl⟩
    go_simp
    exact HY.out
  case r1_1o8 =>
    intro vs w hb hV
    rw [if_pos (by kernel_rfl)]
    generalize hρ : rho _ _ _ vs = ρ
    have d10 : (vs 7) = .int .u64 y := hV 7 (by kernel_rfl)
    have e10 : ρ (.tmp 10) = vs 7 := by rw [← hρ]; kernel_rfl
    rw [d10] at e10; clear d10
    have ef49 : ρ (.func 49) = .func (.func 49) #[] #[] := by rw [← hρ]; rfl
    have econ : ∀ v : Value, ρ (.const v) = v := fun v => by rw [← hρ]; rfl
    clear hρ hV
    refine runs_call (f := 49) (args := #[.int .u64 y, .int .i64 4]) (w' := w) ?_ ?_
    · go_simp
    · refine (low_any y 4 w HZL.out.2 (by omega)).mono ?_
      rintro e w5 ⟨v, rfl, hv, hb5⟩
      obtain ⟨A1, c1, e1, e2, e3⟩ := Kd.R_reads hv
      rw [lowN_length] at e1 e2 e3
      exact ⟨_, rfl, hb5, A1, c1, e1, e2, e3⟩
  case r1_1o9 =>
    intro vs w hb hV
    rw [if_pos (by kernel_rfl)]
    generalize hρ : rho _ _ _ vs = ρ
    have d7 : (fun (w : World) (v : Value) => ∃ A c, v = .slice A 4 c ∧ 4 ≤ c ∧ (Kd.int .u8).C w A 4 (lowN x 4)) w (vs 4) := hV 4 (by kernel_rfl)
    have e7 : ρ (.tmp 7) = vs 4 := by rw [← hρ]; kernel_rfl
    obtain ⟨A1, c1, h1, hc1, hC1⟩ := d7
    have d11 : (fun (w : World) (v : Value) => ∃ A c, v = .slice A 4 c ∧ 4 ≤ c ∧ (Kd.int .u8).C w A 4 (lowN y 4)) w (vs 8) := hV 8 (by kernel_rfl)
    have e11 : ρ (.tmp 11) = vs 8 := by rw [← hρ]; kernel_rfl
    obtain ⟨A2, c2, h2, hc2, hC2⟩ := d11
    clear hρ hV
    rw [h1] at e7
    rw [h2] at e11
    refine runs_val (v := .slice (some ⟨w.heap.size, 0, none⟩) 2 2) (w' := w.alloc (.cells #[.slice A1 4 c1, .slice A2 4 c2] 39)) ?_ ⟨below_alloc (Below.refl _ _) _, _, rfl, C_of_two (heap_alloc_new _ _) (Kd.C_alloc hC1 _) hc1 (Kd.C_alloc hC2 _) hc2⟩
    go_simp
  case r1_1o10 =>
    intro vs w hb hV
    rw [if_pos (by kernel_rfl)]
    generalize hρ : rho _ _ _ vs = ρ
    have d12 : (fun (w : World) (v : Value) => ∃ A, v = .slice A 2 2 ∧ (Kd.slice 5 (Kd.int .u8)).C w A 2 [lowN x 4, lowN y 4]) w (vs 9) := hV 9 (by kernel_rfl)
    have e12 : ρ (.tmp 12) = vs 9 := by rw [← hρ]; kernel_rfl
    obtain ⟨A3, h3, hC3⟩ := d12
    have ef29 : ρ (.func 29) = .func (.func 29) #[] #[] := by rw [← hρ]; rfl
    clear hρ hV
    rw [h3] at e12
    refine runs_call (f := 29) (args := #[.slice A3 2 2]) (w' := w) ?_ ?_
    · go_simp
    · refine (join_any A3 2 2 _ w hC3 (by omega) (by simp [lowN_length])).mono ?_
      rintro e w5 ⟨v, rfl, hv, hb5⟩
      refine ⟨_, rfl, hb5, Kd.R_lower ?_ hb.size⟩
      have he : [lowN x 4, lowN y 4].flatten = cellN x y := by simp [cellN]
      rw [he] at hv
      exact hv
  case r1_1o11 =>
    intro vs w hb hV
    rw [if_pos (by kernel_rfl)]
    generalize hρ : rho _ _ _ vs = ρ
    have d13 : (fun (w : World) (v : Value) => (Kd.int .u8).R 5 w W.heap.size (fun _ => True) v (cellN x y)) w (vs 10) := hV 10 (by kernel_rfl)
    have e13 : ρ (.tmp 13) = vs 10 := by rw [← hρ]; kernel_rfl
    clear hρ hV
    refine runs_val (v := vs 10) (w' := w) ?_ ⟨Below.refl _ _, d13⟩
    go_simp
  case r1_1e =>
    intro vs V2 hb2 hV
    have d3 : (vs 0) = .pointer (some ⟨gs, 0, none⟩) := hV 0 (Nat.le_of_ble_eq_true rfl)
    have d4 : (vs 1) = .int .i32 a := hV 1 (Nat.le_of_ble_eq_true rfl)
    have d5 : (vs 2) = .int .u32 x := hV 2 (Nat.le_of_ble_eq_true rfl)
    have d6 : (vs 3) = .int .u64 x := hV 3 (Nat.le_of_ble_eq_true rfl)
    have d7 : (fun (w : World) (v : Value) => ∃ A c, v = .slice A 4 c ∧ 4 ≤ c ∧ (Kd.int .u8).C w A 4 (lowN x 4)) V2 (vs 4) := hV 4 (Nat.le_of_ble_eq_true rfl)
    have d8 : (vs 5) = .pointer (some ⟨gs, 1, none⟩) := hV 5 (Nat.le_of_ble_eq_true rfl)
    have d9 : (vs 6) = .int .u32 b := hV 6 (Nat.le_of_ble_eq_true rfl)
    have d10 : (vs 7) = .int .u64 y := hV 7 (Nat.le_of_ble_eq_true rfl)
    have d11 : (fun (w : World) (v : Value) => ∃ A c, v = .slice A 4 c ∧ 4 ≤ c ∧ (Kd.int .u8).C w A 4 (lowN y 4)) V2 (vs 8) := hV 8 (Nat.le_of_ble_eq_true rfl)
    have d12 : (fun (w : World) (v : Value) => ∃ A, v = .slice A 2 2 ∧ (Kd.slice 5 (Kd.int .u8)).C w A 2 [lowN x 4, lowN y 4]) V2 (vs 9) := hV 9 (Nat.le_of_ble_eq_true rfl)
    have d13 : (fun (w : World) (v : Value) => (Kd.int .u8).R 5 w W.heap.size (fun _ => True) v (cellN x y)) V2 (vs 10) := hV 10 (Nat.le_of_ble_eq_true rfl)
    have d2 : (fun (w : World) (v : Value) => (Kd.int .u8).R 5 w W.heap.size (fun _ => True) v (cellN x y)) V2 (vs 11) := hV 11 (Nat.le_of_ble_eq_true rfl)
    clear hV
    simp only [putAll]
    rw [d3, d4, d5, d6, d8, d9, d10]
    clear d3 d4 d5 d6 d8 d9 d10
    generalize vs 4 = v7 at *
    generalize vs 8 = v11 at *
    generalize vs 9 = v12 at *
    generalize vs 10 = v13 at *
    generalize vs 11 = v2 at *
    clear vs
    simp only [Act.put, List.setIfInBounds_toArray, List.set_cons_zero, List.set_cons_succ]
    clear d7 d11 d12 d13
    go_wp2_with fail
    go_ret
    rw [HGS.out]
    exact ⟨_, rfl, Kd.R_lower d2 HLE.out, HAL.out.trans (hb2.mono HLE.out)⟩
theorem hoodwinkref06_Bytes.calls (k : Nat) (a0_0 : Int) (a0_1 : Int) (r : List Int) (w : World) (h : hoodwinkref06_Bytes.f k a0_0 a0_1 = some r) :
    Calls Try.prog 50 #[.agg #[.int .i32 a0_0, .int .u32 a0_1]] w fun e w' => ∃ v0_ : Value, e = .returned (v0_) ∧ Kd.R (Kd.int .u8) 5 w' w.heap.size (fun _ => True) v0_ r ∧ Below w.heap.size w w' := by
  have hwr : ∃ y : Nat, IntKind.u64.wrap a0_1 = y ∧ y ≤ 18446744073709551615 := by
    refine ⟨(IntKind.u64.wrap a0_1).toNat, ?_, ?_⟩
    · have : IntKind.u64.wrap a0_1 = a0_1 % 18446744073709551616 := by simp [IntKind.wrap, IntKind.bits, IntKind.signed]
      omega
    · have : IntKind.u64.wrap a0_1 = a0_1 % 18446744073709551616 := by simp [IntKind.wrap, IntKind.bits, IntKind.signed]
      omega
  obtain ⟨y, hy, hyl⟩ := hwr
  obtain ⟨x, hx⟩ : ∃ x : Nat, a0_0 % 4294967296 = x := ⟨(a0_0 % 4294967296).toNat, by omega⟩
  have h1 := bytes_f k a0_0 a0_1 x y hx hy (by omega) hyl
  have h2 := rounds_up (f := fun k => hoodwinkref06_Bytes.f k a0_0 a0_1) (fun k => hoodwinkref06_Bytes.mono a0_0 a0_1 k) h 10
  have h3 : r = cellN x y := by
    have : some r = some (cellN x y) := h2.symm.trans h1
    exact Option.some.inj this
  rw [h3]
  exact bytes_any a0_0 a0_1 x y hx hy (by omega) hyl w
end Go.Proofs.Ytkhlalpkkmjfnaa

namespace Go.Proofs.Ytkhlalpkkmjfnaa
open Go.RowKit Go.Proofs.YtkhlalpkkmjfnaaW.PrintWords Go.Proofs.YtkhlalpkkmjfnaaW.PrintLast Go.Proofs.YtkhlalpkkmjfnaaW.PrintMore
attribute [local go_sem] max2_int min2_int max_two min_two max_three min_three max_four min_four   -- for this text's walks alone
set_option linter.unusedVariables false
set_option linter.unusedSimpArgs false

/-! ### hoodwinkref02_Sum: function 59 -/
mutual
def hoodwinkref02_Sum.l0 : Nat → Int → List Int → Int → Int → Option (Int)
  | 0, _, _, _, _ => none
  | k + 1, x3, x8, x9, x10 => if x10 < x9 then (if 0 ≤ x10 then (if x10 < (x8.length : Int) then (hoodwinkref02_Sum.l1 k x3 (rd x8 x10) 0 x8 x9 x10) else (none)) else (none)) else (some ((IntKind.u64.wrap (4294967295 - x3)) % 4294967296))
def hoodwinkref02_Sum.l1 : Nat → Int → Int → Int → List Int → Int → Int → Option (Int)
  | 0, _, _, _, _, _, _ => none
  | k + 1, x3, x5, x6, x8, x9, x10 => if x6 < 8 then (if 0 ≤ x6 then (if (Int.tmod (IntKind.u64.wrap ((Int.tmod x3 2) + (shr .u64 (IntKind.u64.wrap (x5)) x6))) 2) = 1 then (hoodwinkref02_Sum.l1 k (Go.bits .xor .u64 (IntKind.u64.wrap (Int.tdiv x3 2)) 2197175160) x5 (wrap64 (x6 + 1)) x8 x9 x10) else (hoodwinkref02_Sum.l1 k (IntKind.u64.wrap (Int.tdiv x3 2)) x5 (wrap64 (x6 + 1)) x8 x9 x10)) else (none)) else (hoodwinkref02_Sum.l0 k x3 x8 x9 (wrap64 (x10 + 1)))
end
def hoodwinkref02_Sum.f (k : Nat) (l0 : List Int) : Option (Int) := hoodwinkref02_Sum.l0 k 4294967295 l0 (l0.length : Int) 0
theorem hoodwinkref02_Sum.mono_l : ∀ k, (∀ y0 y1 y2 y3, LeO (hoodwinkref02_Sum.l0 k y0 y1 y2 y3) (hoodwinkref02_Sum.l0 (k + 1) y0 y1 y2 y3)) ∧ (∀ y0 y1 y2 y3 y4 y5, LeO (hoodwinkref02_Sum.l1 k y0 y1 y2 y3 y4 y5) (hoodwinkref02_Sum.l1 (k + 1) y0 y1 y2 y3 y4 y5))
  | 0 => ⟨fun _ _ _ _ r h => by simp [hoodwinkref02_Sum.l0] at h, fun _ _ _ _ _ _ r h => by simp [hoodwinkref02_Sum.l1] at h⟩
  | k + 1 => by
    obtain ⟨ih0, ih1⟩ := hoodwinkref02_Sum.mono_l k
    refine ⟨?_, ?_⟩
    · intro y0 y1 y2 y3
      unfold hoodwinkref02_Sum.l0
      repeat' first
      | (with_reducible exact ih0 _ _ _ _)
      | (with_reducible exact ih1 _ _ _ _ _ _)
      | (with_reducible exact LeO.refl _)
      | (with_reducible exact LeO.none _)
      | (with_reducible refine LeO.ite ?_ ?_)
      | (with_reducible refine LeO.bind ?_ (fun _ => ?_))
      | exact ih0 _ _ _ _
      | exact ih1 _ _ _ _ _ _
      | exact LeO.none _
      | refine LeO.ite ?_ ?_
      | refine LeO.bind ?_ (fun _ => ?_)
    · intro y0 y1 y2 y3 y4 y5
      unfold hoodwinkref02_Sum.l1
      repeat' first
      | (with_reducible exact ih0 _ _ _ _)
      | (with_reducible exact ih1 _ _ _ _ _ _)
      | (with_reducible exact LeO.refl _)
      | (with_reducible exact LeO.none _)
      | (with_reducible refine LeO.ite ?_ ?_)
      | (with_reducible refine LeO.bind ?_ (fun _ => ?_))
      | exact ih0 _ _ _ _
      | exact ih1 _ _ _ _ _ _
      | exact LeO.none _
      | refine LeO.ite ?_ ?_
      | refine LeO.bind ?_ (fun _ => ?_)
theorem hoodwinkref02_Sum.mono : ∀ a0 k, LeO (hoodwinkref02_Sum.f k a0) (hoodwinkref02_Sum.f (k + 1) a0) := by
  intro a0 k
  obtain ⟨ih0, ih1⟩ := hoodwinkref02_Sum.mono_l k
  unfold hoodwinkref02_Sum.f
  repeat' first
      | (with_reducible exact ih0 _ _ _ _)
      | (with_reducible exact ih1 _ _ _ _ _ _)
      | (with_reducible exact LeO.refl _)
      | (with_reducible exact LeO.none _)
      | (with_reducible refine LeO.ite ?_ ?_)
      | (with_reducible refine LeO.bind ?_ (fun _ => ?_))
      | exact ih0 _ _ _ _
      | exact ih1 _ _ _ _ _ _
      | exact LeO.none _
      | refine LeO.ite ?_ ?_
      | refine LeO.bind ?_ (fun _ => ?_)
set_option maxHeartbeats 8000000 in
set_option maxRecDepth 100000 in
theorem hoodwinkref02_Sum.calls (k : Nat) (A0 : Option Addr) (c0 : Nat) (l0 : List Int) (r : Int) (w : World) (hr0 : Kd.C (Kd.int .u8) w A0 l0.length l0) (hc0 : l0.length ≤ c0) (h : hoodwinkref02_Sum.f k l0 = some r) :
    Calls Try.prog 59 #[.slice A0 l0.length c0] w fun e w' => e = .returned (.int .u32 r) ∧ Drawn0 w w' := by
  have HR0 := Aside0.mk hr0
  have HC0 := Aside0.mk hc0
  clear hr0 hc0
  have H : (hoodwinkref02_Sum.l0 k 4294967295 l0 (l0.length : Int) 0) = some r := h
  clear h
  have H' := Aside0.mk H
  clear H
  go_enter Try.func59, Try.ntmps59
  go_wp2
  go_loopg [3, 10] k (fun kq v3 v10 w' => ∃ (x3_1 : Int) (x10_1 : Int), v3 = .int .u64 x3_1 ∧ v10 = .int .i64 x10_1 ∧ Aside0 (hoodwinkref02_Sum.l0 kq x3_1 l0 (l0.length : Int) x10_1 = some r) ∧ Aside0 (kq ≤ k) ∧ Drawn0 w w')
  case atStart => exact ⟨(4294967295), (0), (by first | rfl | (simp; done) | (simp [*]; done)), (by first | rfl | (simp; done) | (simp [*]; done)), H', ⟨Nat.le_refl _⟩, by repeat (first | exact Drawn0.refl _ | apply Drawn0.step)⟩
  case round =>
    clear H'
    obtain ⟨x3_1, x10_1, rfl, rfl, HA, HK1, ⟨m1, rfl⟩⟩ := hrel
    cases gk with
    | zero => exact absurd HA.out (by simp [hoodwinkref02_Sum.l0])
    | succ k1 =>
      have H := HA.out
      clear HA
      simp only [hoodwinkref02_Sum.l0] at H
      by_cases c2 : x10_1 < (l0.length : Int)
      · rw [if_pos c2] at H
        have c2b0 : decide (x10_1 < (l0.length : Int)) = true := decide_eq_true c2
        clear c2
        by_cases c3 : 0 ≤ x10_1
        · rw [if_pos c3] at H
          have c3b0 : decide (0 ≤ x10_1) = true := decide_eq_true c3
          clear c3
          by_cases c4 : x10_1 < (l0.length : Int)
          · rw [if_pos c4] at H
            have c4b0 : decide (x10_1 < (l0.length : Int)) = true := decide_eq_true c4
            clear c4
            have H' := Aside0.mk H
            clear H
            have p169 : 0 ≤ (x10_1 : Int) := of_decide_eq_true (by first | (with_reducible assumption) | assumption)
            have q169 : x10_1 < (l0.length : Int) := of_decide_eq_true (by first | (with_reducible assumption) | assumption)
            obtain ⟨ad169, e169, hx169_0⟩ := Kd.at_int HR0.out x10_1 p169 q169
            cases e169
            replace p169 := eq_true p169
            replace q169 := eq_true q169
            go_wp2
            go_loopg [3, 6] k1 (fun kq v3 v6 w' => ∃ (x3_2 : Int) (x6_2 : Int), v3 = .int .u64 x3_2 ∧ v6 = .int .i64 x6_2 ∧ Aside0 (hoodwinkref02_Sum.l1 kq x3_2 (rd l0 x10_1) x6_2 l0 (l0.length : Int) x10_1 = some r) ∧ Aside0 (kq ≤ k1) ∧ Drawn0 w w')
            case atStart => exact ⟨(x3_1), (0), (by first | rfl | (simp; done) | (simp [*]; done)), (by first | rfl | (simp; done) | (simp [*]; done)), H', ⟨Nat.le_refl _⟩, by repeat (first | exact Drawn0.refl _ | apply Drawn0.step)⟩
            case round =>
              clear H'
              try clear p1
              try clear q1
              try clear hx1
              try clear c2
              try clear c2b0
              try clear p2
              try clear c3
              try clear c3b0
              try clear c4
              try clear c4b0
              try clear hx169_0
              try clear p169
              try clear q169
              obtain ⟨x3_2, x6_2, rfl, rfl, HA, HK2, ⟨m2, rfl⟩⟩ := hrel
              cases gk with
              | zero => exact absurd HA.out (by simp [hoodwinkref02_Sum.l1])
              | succ k2 =>
                have H := HA.out
                clear HA
                simp only [hoodwinkref02_Sum.l1] at H
                by_cases c5 : x6_2 < 8
                · rw [if_pos c5] at H
                  have c5b0 : decide (x6_2 < 8) = true := decide_eq_true c5
                  clear c5
                  by_cases c6 : 0 ≤ x6_2
                  · rw [if_pos c6] at H
                    have c6b0 := eq_true c6
                    have c6b1 : decide (0 ≤ x6_2) = true := decide_eq_true c6
                    clear c6
                    obtain ⟨ji7, hji7⟩ : ∃ j_ : Int, (shr .u64 (IntKind.u64.wrap ((rd l0 x10_1))) x6_2) = j_ := ⟨_, rfl⟩
                    replace H : (if (Int.tmod (IntKind.u64.wrap ((Int.tmod x3_2 2) + (ji7))) 2) = 1 then (hoodwinkref02_Sum.l1 k2 (Go.bits .xor .u64 (IntKind.u64.wrap (Int.tdiv x3_2 2)) 2197175160) (rd l0 x10_1) (wrap64 (x6_2 + 1)) l0 (l0.length : Int) x10_1) else (hoodwinkref02_Sum.l1 k2 (IntKind.u64.wrap (Int.tdiv x3_2 2)) (rd l0 x10_1) (wrap64 (x6_2 + 1)) l0 (l0.length : Int) x10_1)) = some r := by first | (rw [hji7] at H; exact H) | (simp only [hji7] at H ⊢; exact H)
                    have hji7_ : ((IntKind.u64.wrap ((rd l0 x10_1))) / 2 ^ min x6_2.toNat 64) = ji7 := hji7
                    have hji7z : x6_2 ≤ 64 → ((IntKind.u64.wrap ((rd l0 x10_1))) / 2 ^ x6_2.toNat) = ji7 := shr_small hji7
                    by_cases c8 : (Int.tmod (IntKind.u64.wrap ((Int.tmod x3_2 2) + (ji7))) 2) = 1
                    · rw [if_pos c8] at H
                      have c8b0 : ((Int.tmod (IntKind.u64.wrap ((Int.tmod x3_2 2) + (ji7))) 2) == 1) = true := beq_iff_eq.mpr c8
                      have c8b1 : ((Int.tmod (IntKind.u64.wrap ((Int.tmod x3_2 2) + (ji7))) 2) != 1) = false := bne_eq_false_iff_eq.mpr c8
                      clear c8
                      have H' := Aside0.mk H
                      clear H
                      go_wp2
                      go_roundg k2
                      case measure => have := HK1.out; have := HK2.out; omega
                      case rel => exact ⟨(Go.bits .xor .u64 (IntKind.u64.wrap (Int.tdiv x3_2 2)) 2197175160), (wrap64 (x6_2 + 1)), (by first | rfl | (simp; done) | (simp [*]; done)), (by first | rfl | (simp; done) | (simp [*]; done)), H', ⟨by have := HK1.out; have := HK2.out; omega⟩, by repeat (first | exact Drawn0.refl _ | apply Drawn0.step)⟩
                    · rw [if_neg c8] at H
                      have c8b0 : ((Int.tmod (IntKind.u64.wrap ((Int.tmod x3_2 2) + (ji7))) 2) == 1) = false := beq_eq_false_iff_ne.mpr c8
                      have c8b1 : ((Int.tmod (IntKind.u64.wrap ((Int.tmod x3_2 2) + (ji7))) 2) != 1) = true := bne_iff_ne.mpr c8
                      have H' := Aside0.mk H
                      clear H
                      go_wp2
                      go_roundg k2
                      case measure => have := HK1.out; have := HK2.out; omega
                      case rel => exact ⟨(IntKind.u64.wrap (Int.tdiv x3_2 2)), (wrap64 (x6_2 + 1)), (by first | rfl | (simp; done) | (simp [*]; done)), (by first | rfl | (simp; done) | (simp [*]; done)), H', ⟨by have := HK1.out; have := HK2.out; omega⟩, by repeat (first | exact Drawn0.refl _ | apply Drawn0.step)⟩
                  · rw [if_neg c6] at H
                    exact absurd H (by simp)
                · rw [if_neg c5] at H
                  have c5b0 : decide (x6_2 < 8) = false := decide_eq_false c5
                  clear c5
                  have H' := Aside0.mk H
                  clear H
                  go_wp2
                  go_roundg k2
                  case measure => have := HK1.out; have := HK2.out; omega
                  case rel => exact ⟨(x3_2), (wrap64 (x10_1 + 1)), (by first | rfl | (simp; done) | (simp [*]; done)), (by first | rfl | (simp; done) | (simp [*]; done)), H', ⟨by have := HK1.out; have := HK2.out; omega⟩, by repeat (first | exact Drawn0.refl _ | apply Drawn0.step)⟩
          · rw [if_neg c4] at H
            exact absurd H (by simp)
        · rw [if_neg c3] at H
          exact absurd H (by simp)
      · rw [if_neg c2] at H
        have c2b0 : decide (x10_1 < (l0.length : Int)) = false := decide_eq_false c2
        clear c2
        obtain rfl := Option.some.inj H
        go_wp2
        go_ret
        exact ⟨by first | rfl | (simp; done) | (simp [*]; done), by repeat (first | exact Drawn0.refl _ | apply Drawn0.step)⟩

/-! ### hoodwinkref06_Hash: function 44 -/
def hoodwinkref06_Hash.l0 : Nat → List Int → List (S89) → Int → Int → Option (Int)
  | 0, _, _, _, _ => none
  | k + 1, x3, x6, x7, x8 => if x8 < x7 then (if 0 ≤ x8 then (if x8 < (x6.length : Int) then ((hoodwinkref06_Bytes.f k ((rd_T89 x6 x8).f0) ((rd_T89 x6 x8).f1)).bind fun t172 => (if x3.length + t172.length < 140737488355328 then (hoodwinkref06_Hash.l0 k (x3 ++ t172) x6 x7 (wrap64 (x8 + 1))) else (none))) else (none)) else (none)) else ((hoodwinkref02_Sum.f k x3).bind fun t178 => (some t178))
def hoodwinkref06_Hash.f (k : Nat) (l0 : List (S89)) : Option (Int) := hoodwinkref06_Hash.l0 k ([] : List Int) l0 (l0.length : Int) 0
theorem hoodwinkref06_Hash.mono_l : ∀ k, (∀ y0 y1 y2 y3, LeO (hoodwinkref06_Hash.l0 k y0 y1 y2 y3) (hoodwinkref06_Hash.l0 (k + 1) y0 y1 y2 y3))
  | 0 => fun _ _ _ _ r h => by simp [hoodwinkref06_Hash.l0] at h
  | k + 1 => by
    have ih0 := hoodwinkref06_Hash.mono_l k
    · intro y0 y1 y2 y3
      unfold hoodwinkref06_Hash.l0
      repeat' first
      | (with_reducible exact ih0 _ _ _ _)
      | (with_reducible exact hoodwinkref02_Sum.mono _ _)
      | (with_reducible exact hoodwinkref06_Bytes.mono _ _ _)
      | (with_reducible exact LeO.refl _)
      | (with_reducible exact LeO.none _)
      | (with_reducible refine LeO.ite ?_ ?_)
      | (with_reducible refine LeO.bind ?_ (fun _ => ?_))
      | exact ih0 _ _ _ _
      | exact hoodwinkref02_Sum.mono _ _
      | exact hoodwinkref06_Bytes.mono _ _ _
      | exact LeO.none _
      | refine LeO.ite ?_ ?_
      | refine LeO.bind ?_ (fun _ => ?_)
theorem hoodwinkref06_Hash.mono : ∀ a0 k, LeO (hoodwinkref06_Hash.f k a0) (hoodwinkref06_Hash.f (k + 1) a0) := by
  intro a0 k
  have ih0 := hoodwinkref06_Hash.mono_l k
  unfold hoodwinkref06_Hash.f
  repeat' first
      | (with_reducible exact ih0 _ _ _ _)
      | (with_reducible exact hoodwinkref02_Sum.mono _ _)
      | (with_reducible exact hoodwinkref06_Bytes.mono _ _ _)
      | (with_reducible exact LeO.refl _)
      | (with_reducible exact LeO.none _)
      | (with_reducible refine LeO.ite ?_ ?_)
      | (with_reducible refine LeO.bind ?_ (fun _ => ?_))
      | exact ih0 _ _ _ _
      | exact hoodwinkref02_Sum.mono _ _
      | exact hoodwinkref06_Bytes.mono _ _ _
      | exact LeO.none _
      | refine LeO.ite ?_ ?_
      | refine LeO.bind ?_ (fun _ => ?_)
set_option maxHeartbeats 8000000 in
set_option maxRecDepth 100000 in
theorem hoodwinkref06_Hash.calls (k : Nat) (A0 : Option Addr) (c0 : Nat) (l0 : List (S89)) (r : Int) (w : World) (hr0 : Kd.C k89 w A0 l0.length l0) (hc0 : l0.length ≤ c0) (h : hoodwinkref06_Hash.f k l0 = some r) :
    Calls Try.prog 44 #[.slice A0 l0.length c0] w fun e w' => e = .returned (.int .u32 r) ∧ Below w.heap.size w w' := by
  have hu89 := Try.underlying89
  have HR0 := Aside0.mk hr0
  have HC0 := Aside0.mk hc0
  clear hr0 hc0
  have HB := Aside0.mk (Below.refl w.heap.size w)
  have H : (hoodwinkref06_Hash.l0 k ([] : List Int) l0 (l0.length : Int) 0) = some r := h
  clear h
  have H' := Aside0.mk H
  clear H
  go_enter Try.func44, Try.ntmps44
  go_wp2
  go_loopg [3, 8] k (fun kq v3 v8 w' => ∃ (x3_1 : List Int) (x8_1 : Int), v8 = .int .i64 x8_1 ∧ Aside0 (hoodwinkref06_Hash.l0 kq x3_1 l0 (l0.length : Int) x8_1 = some r) ∧ Aside0 (kq ≤ k) ∧ Aside0 (Kd.R (Kd.int .u8) 5 w' w.heap.size (fun _ => True) v3 x3_1) ∧ Aside0 (Below w.heap.size w w'))
  case atStart => exact ⟨(([] : List Int)), (0), (by first | rfl | (simp; done) | (simp [*]; done)), H', ⟨Nat.le_refl _⟩, ⟨by first | exact Kd.R_nil _ _ _ _ _ | exact Kd.N_nil _ _ _ _ _ | exact Kd.V_nil _ _ _ _ _ | exact Kd.Q_nil _ _ _ _ _ | exact Kd.S_nil _ _ _ _ _⟩, ⟨by repeat (first | (with_reducible first | exact HB.out | apply below_alloc | apply pw_below_drewN | apply below_drew1) | exact HB.out)⟩⟩
  case round =>
    clear H'
    obtain ⟨x3_1, x8_1, rfl, HA, HK1, HO_3, HB⟩ := hrel
    cases gk with
    | zero => exact absurd HA.out (by simp [hoodwinkref06_Hash.l0])
    | succ k1 =>
      have H := HA.out
      clear HA
      simp only [hoodwinkref06_Hash.l0] at H
      by_cases c2 : x8_1 < (l0.length : Int)
      · rw [if_pos c2] at H
        have c2b0 : decide (x8_1 < (l0.length : Int)) = true := decide_eq_true c2
        clear c2
        by_cases c3 : 0 ≤ x8_1
        · rw [if_pos c3] at H
          have c3b0 : decide (0 ≤ x8_1) = true := decide_eq_true c3
          clear c3
          by_cases c4 : x8_1 < (l0.length : Int)
          · rw [if_pos c4] at H
            have c4b0 : decide (x8_1 < (l0.length : Int)) = true := decide_eq_true c4
            clear c4
            replace H := Option.bind_eq_some_iff.mp H
            obtain ⟨t172, A50, H⟩ := H
            replace H : (if x3_1.length + t172.length < 140737488355328 then (hoodwinkref06_Hash.l0 k1 (x3_1 ++ t172) l0 (l0.length : Int) (wrap64 (x8_1 + 1))) else (none)) = some r := H
            have A5 := Aside0.mk A50
            clear A50
            by_cases c6 : x3_1.length + t172.length < 140737488355328
            · rw [if_pos c6] at H
              have LMc6 := Aside0.mk c6
              clear c6
              obtain ⟨y175, hy175⟩ : ∃ y_ : List Int, y_ = (x3_1 ++ t172) := ⟨_, rfl⟩
              replace H : (hoodwinkref06_Hash.l0 k1 y175 l0 (l0.length : Int) (wrap64 (x8_1 + 1))) = some r := by first | (rw [hy175]; with_reducible exact H) | (have H2_ := (Option.bind_some _ _).symm.trans H; rw [hy175]; with_reducible exact H2_) | (have H2_ := (Option.bind_some _ _).symm.trans H; with_reducible exact H2_) | with_reducible exact H | (rw [hy175]; exact H) | exact H
              have Ny175 := Aside0.mk hy175
              clear hy175
              have H' := Aside0.mk H
              clear H
              have p170 : 0 ≤ (x8_1 : Int) := of_decide_eq_true (by first | (with_reducible assumption) | assumption)
              have q170 : x8_1 < (l0.length : Int) := of_decide_eq_true (by first | (with_reducible assumption) | assumption)
              obtain ⟨ad170, e170, hx170_0, hx170_1⟩ := at_T89 HR0.out x8_1 p170 q170
              cases e170
              replace hx170_0 := (HB.out.cell (World.block_lt_of_cell? w _ hx170_0)).trans hx170_0
              replace hx170_1 := (HB.out.cell (World.block_lt_of_cell? w _ hx170_1)).trans hx170_1
              replace p170 := eq_true p170
              replace q170 := eq_true q170
              go_wp2_with (first | ((with_reducible refine gate_dst (N := 5) rfl ?_); refine box_event ?hg (N := 5) ?hd (cs := #[.int .i32 0, .int .u32 0]) (t := 89) ?hr ?_; (case hd => rfl); (case hg => rfl); (case hr => first | (go_simp; done) | (go_simp; rfl)); intro gb171 hg w7 hbox hb; have n0_ := Aside0.mk (Kd.R_below (by (with_reducible repeat (first | apply Kd.R_alloc | apply Kd.R_drewN | apply Kd.R_drew)); exact HO_3.out) hb); have n1_ := Aside0.mk (below_step (by repeat (first | (with_reducible first | exact HB.out | apply below_alloc | apply pw_below_drewN | apply below_drew1) | exact HB.out)) hb); have n2_ := Aside0.mk (hbox); have n3_ := Aside0.mk ((by rw [hg]; exact (below_size (by repeat (first | (with_reducible first | exact HB.out | apply below_alloc | apply pw_below_drewN | apply below_drew1) | exact HB.out))) : w.heap.size ≤ gb171)); have n4_ := Aside0.mk ((by rw [hg]; exact (below_size (by repeat (first | (with_reducible first | exact HB.out | apply below_alloc | apply pw_below_drewN | apply below_drew1) | exact HB.out))) : w.heap.size ≤ gb171)); clear HO_3; clear HB; have HO_3 := n0_; have HB := n1_; have BK171 := n2_; have GW171 := n3_; have GE171 := n4_; clear n0_ n1_ n2_ n3_ n4_; clear hb hbox hg; have hcz8_0 : w7.cell? ⟨gb171, 0, none⟩ = some (.int .i32 0) := (blk_cell BK171.out 0).trans rfl; have hcz8_1 : w7.cell? ⟨gb171, 1, none⟩ = some (.int .u32 0) := (blk_cell BK171.out 1).trans rfl; have hfz8_0 := blk_frozen BK171.out 0; have hfz8_1 := blk_frozen BK171.out 1) | ((with_reducible refine gate_callee (f := 50) rfl ?_); refine goesL_ (some 14) rfl rfl Try.func50 (by kernel_rfl) rfl #[.agg #[.int .i32 ((rd_T89 l0 x8_1).f0), .int .u32 ((rd_T89 l0 x8_1).f1)]] rfl (by (try simp only [List.map_toArray, List.map_cons, List.map_nil]); first | done | rfl | (simp only [List.length_drop, List.length_take]; rfl)) ?_; (with_reducible refine (hoodwinkref06_Bytes.calls k1 ((rd_T89 l0 x8_1).f0) ((rd_T89 l0 x8_1).f1) t172 _ A5.out).mono ?_); rintro e w9 ⟨v173, rfl, ho0, hb⟩; refine ⟨_, rfl, ?_⟩; have n0_ := Aside0.mk (Kd.R_elder' (by (with_reducible repeat (first | apply Kd.R_alloc | apply Kd.R_drewN | apply Kd.R_drew)); exact (Kd.R_mono (Kd.R_far (p := ⟨gb171, 1, none⟩) (Kd.R_far (p := ⟨gb171, 0, none⟩) (Kd.R_types HO_3.out BK171.out (by decide)) (fun _ hk => hk.2) (.int .i32 ((rd_T89 l0 x8_1).f0))) (fun _ hk => hk.2) (.int .u32 ((rd_T89 l0 x8_1).f1))) (fun _ h_ => h_.1))) (Kd.R_base ho0) hb); have n1_ := Aside0.mk (Kd.R_lower (Kd.R_new' ho0 (Kd.R_lt (by (with_reducible repeat (first | apply Kd.R_alloc | apply Kd.R_drewN | apply Kd.R_drew)); exact (Kd.R_mono (Kd.R_far (p := ⟨gb171, 1, none⟩) (Kd.R_far (p := ⟨gb171, 0, none⟩) (Kd.R_types HO_3.out BK171.out (by decide)) (fun _ hk => hk.2) (.int .i32 ((rd_T89 l0 x8_1).f0))) (fun _ hk => hk.2) (.int .u32 ((rd_T89 l0 x8_1).f1))) (fun _ h_ => h_.1))))) (below_size (by repeat (first | (with_reducible first | exact HB.out | apply below_alloc | apply pw_below_drewN | apply below_drew1 | refine below_set ?_ GE171.out) | exact HB.out)))); have n2_ := Aside0.mk (blk_below (g := gb171) (o := .cells #[.int .i32 ((rd_T89 l0 x8_1).f0), .int .u32 ((rd_T89 l0 x8_1).f1)] 89 (0, 0)) (by (with_reducible repeat (first | refine blk_drewN ?_ _ | refine blk_drew ?_ | refine blk_alloc ?_ _)); refine blk_put (cs := #[.int .i32 ((rd_T89 l0 x8_1).f0), .int .u32 0]) ?_ 1 _ rfl; (with_reducible repeat (first | refine blk_drewN ?_ _ | refine blk_drew ?_ | refine blk_alloc ?_ _)); refine blk_put (cs := #[.int .i32 0, .int .u32 0]) ?_ 0 _ rfl; (with_reducible repeat (first | refine blk_drewN ?_ _ | refine blk_drew ?_ | refine blk_alloc ?_ _)); exact BK171.out) hb); have n3_ := Aside0.mk (below_step (by repeat (first | (with_reducible first | exact HB.out | apply below_alloc | apply pw_below_drewN | apply below_drew1 | refine below_set ?_ GE171.out) | exact HB.out)) hb); clear HO_3; clear BK171; clear HB; have HO_3 := n0_; have HO174 := n1_; have BK171 := n2_; have HB := n3_; clear n0_ n1_ n2_ n3_; (try clear hb); (try clear hb2); (try clear hk); (try clear hi); (try clear ho0); obtain ⟨Ao11, co11, eo11⟩ := Kd.R_slice HO174.out; subst eo11) | ((with_reducible refine gate_builtin (b := .append) (xs := #[.tmp 12, .tmp 14]) rfl ?_); at_builtin; refine Kd.R_append_rows (Kd.int .u8) (w0 := w) w.heap.size rfl (.tmp 12) (.tmp 14) 39 5 (.int .u8 0) 1 rfl Try.underlying39 info5 rfl (by decide) (by omega) u3 x3_1 t172 _ _ _ (fun k_ => some k_ ≠ (.slice Ao11 t172.length co11 : Value).ownBlock) (fun _ => False) rfl rfl ?aO ?aR (fun _ _ h => h) (fun _ h => h.elim) ?aF ?aB ?aS ?aL ?_; (case aR => repeat (first | exact (Kd.R_reads' HO174.out).2.2 | (with_reducible refine Kd.C_alloc ?_ _) | (with_reducible refine Kd.C_drewN ?_ _) | (with_reducible refine Kd.C_drew ?_))); (case aB => exact (by repeat (first | (with_reducible first | exact HB.out | apply below_alloc | apply pw_below_drewN | apply below_drew1 | refine below_set ?_ GE171.out) | exact HB.out))); (case aF => exact (fun k_ hk => Kd.fresh' (Kd.R_lt (by (with_reducible repeat (first | apply Kd.R_alloc | apply Kd.R_drewN | apply Kd.R_drew)); exact HO174.out)) k_ hk)); (case aO => exact (by (with_reducible repeat (first | apply Kd.R_alloc | apply Kd.R_drewN | apply Kd.R_drew)); exact Kd.R_mono HO_3.out (fun _ hk => hk.2))); (case aS => exact (below_size (by repeat (first | (with_reducible first | exact HB.out | apply below_alloc | apply pw_below_drewN | apply below_drew1 | refine below_set ?_ GE171.out) | exact HB.out)))); (case aL => have := LMc6.out; omega); intro v176 w10 ho hb hg hat; rw [← Ny175.out] at ho; have n0_ := Aside0.mk (blk_grown (g := gb171) (o := .cells #[.int .i32 ((rd_T89 l0 x8_1).f0), .int .u32 ((rd_T89 l0 x8_1).f1)] 89 (0, 0)) (by (with_reducible repeat (first | refine blk_drewN ?_ _ | refine blk_drew ?_ | refine blk_alloc ?_ _)); exact BK171.out) hg (Kd.R_ne HO_3.out BK171.out (by decide))); have n1_ := Aside0.mk (Kd.R_after (ok := (fun _ => True)) (by (with_reducible repeat (first | apply Kd.R_alloc | apply Kd.R_drewN | apply Kd.R_drew)); exact HO174.out) hg hat); have n2_ := Aside0.mk (hb); have n3_ := Aside0.mk (ho); clear BK171; clear HO174; clear HB; clear HO_3; have BK171 := n0_; have HO174 := n1_; have HB := n2_; have HO177 := n3_; clear n0_ n1_ n2_ n3_; clear ho hb hg hat))
              go_roundg k1
              case measure => have := HK1.out; omega
              case rel => exact ⟨(y175), (wrap64 (x8_1 + 1)), (by first | rfl | (simp; done) | (simp [*]; done)), H', ⟨by have := HK1.out; omega⟩, ⟨by (with_reducible repeat (first | apply Kd.R_alloc | apply Kd.R_drewN | apply Kd.R_drew)); exact Kd.R_mono HO177.out (fun _ hk => trivial)⟩, ⟨by repeat (first | (with_reducible first | exact HB.out | apply below_alloc | apply pw_below_drewN | apply below_drew1 | refine below_set ?_ GE171.out) | exact HB.out)⟩⟩
            · rw [if_neg c6] at H
              exact absurd H (by simp)
          · rw [if_neg c4] at H
            exact absurd H (by simp)
        · rw [if_neg c3] at H
          exact absurd H (by simp)
      · rw [if_neg c2] at H
        have c2b0 : decide (x8_1 < (l0.length : Int)) = false := decide_eq_false c2
        clear c2
        replace H := Option.bind_eq_some_iff.mp H
        obtain ⟨t178, A120, H⟩ := H
        replace H : (some t178) = some r := H
        have A12 := Aside0.mk A120
        clear A120
        obtain rfl := Option.some.inj H
        obtain ⟨Ao13, co13, eo13⟩ := Kd.R_slice HO_3.out
        subst eo13
        go_wp2_with (first | ((with_reducible refine gate_callee (f := 59) rfl ?_); refine goesL_ (some 18) rfl rfl Try.func59 (by kernel_rfl) rfl #[.slice Ao13 x3_1.length co13] rfl (by (try simp only [List.map_toArray, List.map_cons, List.map_nil]); first | done | rfl | (simp only [List.length_drop, List.length_take]; rfl)) ?_; (with_reducible refine (hoodwinkref02_Sum.calls k1 _ _ x3_1 t178 _ ?side1 ?side2 A12.out).mono ?_); (case side1 => repeat (first | exact (Kd.R_reads' HO_3.out).2.2 | (with_reducible refine Kd.C_alloc ?_ _) | (with_reducible refine Kd.C_drewN ?_ _) | (with_reducible refine Kd.C_drew ?_))); (case side2 => exact (Kd.R_reads' HO_3.out).2.1); rintro e w' ⟨rfl, ⟨nd, rfl⟩⟩; refine ⟨_, rfl, ?_⟩))
        go_ret
        exact ⟨by first | rfl | (simp [errW_none, errW_some] <;> rfl) | (simp [*, errW_none, errW_some] <;> rfl), by repeat (first | (with_reducible first | exact HB.out | apply below_alloc | apply pw_below_drewN | apply below_drew1) | exact HB.out)⟩

end Go.Proofs.Ytkhlalpkkmjfnaa

namespace Go.Proofs.Ytkhlalpkkmjfnaa
open Go.RowKit Go.Proofs.YtkhlalpkkmjfnaaW.PrintWords Go.Proofs.YtkhlalpkkmjfnaaW.PrintLast Go.Proofs.YtkhlalpkkmjfnaaW.PrintMore
set_option linter.unusedVariables false
set_option linter.unusedSimpArgs false

/-! ### The step is linear -/
/-! ### The reference's sum -/
/-- Bytes' steps, one by one. -/
def steps (s : Nat) (l : List Int) : Nat := l.foldl (fun s b => stepN s b.toNat) s
end Go.Proofs.Ytkhlalpkkmjfnaa

namespace Go.Proofs.Ytkhlalpkkmjfnaa
open Go.RowKit
set_option linter.unusedVariables false
end Go.Proofs.Ytkhlalpkkmjfnaa

namespace Go.Proofs.Ytkhlalpkkmjfnaa
open Go.RowKit Go.Proofs.YtkhlalpkkmjfnaaW.PrintWords Go.Proofs.YtkhlalpkkmjfnaaW.PrintLast Go.Proofs.YtkhlalpkkmjfnaaW.PrintMore
set_option linter.unusedVariables false
set_option linter.unusedSimpArgs false

end Go.Proofs.Ytkhlalpkkmjfnaa

namespace Go.Proofs.Ytkhlalpkkmjfnaa
open Go.RowKit Go.Proofs.YtkhlalpkkmjfnaaW.PrintWords Go.Proofs.YtkhlalpkkmjfnaaW.PrintLast Go.Proofs.YtkhlalpkkmjfnaaW.PrintMore
set_option linter.unusedVariables false
set_option linter.unusedSimpArgs false

def toR (x : S30) : S89 := ⟨x.f0, x.f1⟩
theorem rdT25_get {L : List S30} {j : Nat} (h : j < L.length) : rd_T30 L (j : Int) = L[j] := by
  unfold rd_T30; rw [List.getD_eq_getElem?_getD, Int.toNat_natCast, List.getElem?_eq_getElem h]; rfl
theorem rdT52_get {L : List S89} {j : Nat} (h : j < L.length) : rd_T89 L (j : Int) = L[j] := by
  unfold rd_T89; rw [List.getD_eq_getElem?_getD, Int.toNat_natCast, List.getElem?_eq_getElem h]; rfl
theorem wrap_succ {j : Nat} (h : j ≤ 1000000) : wrap64 ((j : Int) + 1) = ((j + 1 : Nat) : Int) := by unfold wrap64; omega
/-! ### Same -/
theorem eqCellR (d : Nat) (w : World) (x0 y0 : Int) (x1 y1 : Int) :
    (Op.equalIn (d + 2) 89 (.agg #[.int .i32 x0, .int .u32 x1]) (.agg #[.int .i32 y0, .int .u32 y1])).run Try.prog w = .ok (x0 == y0 && (x1 == y1)) w := by
  refine eqA_of Try.underlying89 (by kernel_rfl) ?_
  refine eqf_cons (by rfl) (by go_simp; rfl) (by go_simp; rfl) (by go_simp) ?_
  exact eqf_last (by rfl) (by go_simp; rfl) (by go_simp; rfl) (by go_simp)
theorem cellR_neq (a b c d : Int) (w : World) : (binOp .neq 89 (.agg #[.int .i32 a, .int .u32 b]) (.agg #[.int .i32 c, .int .u32 d])).run Try.prog w = .ok (.bool (!(a == c && (b == d)))) w := by
  rw [run_neq_struct, eqCellR 9998]; rfl
theorem cellR_guard (op : BinOp) (x y : Operand) (xs ys : Array Value) (w : World) : (eqGuard op 89 x y (.agg xs) (.agg ys)).run Try.prog w = .ok () w := run_eqGuard_agg w op _ x y xs ys (by kernel_rfl)
def sameL : List S89 → List S89 → Bool
  | [], [] => true
  | x :: xs, y :: ys => (x.f0 == y.f0 && x.f1 == y.f1) && sameL xs ys
  | _, _ => false
theorem S89_eq {a b : S89} : (a.f0 == b.f0 && a.f1 == b.f1) = true ↔ a = b := by
  cases a; cases b; simp
theorem sameL_iff : ∀ x y : List S89, sameL x y = true ↔ x = y
  | [], [] => by simp [sameL]
  | x :: xs, y :: ys => by rw [sameL, Bool.and_eq_true, S89_eq, sameL_iff xs ys, List.cons.injEq]
  | [], y :: ys => by simp [sameL]
  | x :: xs, [] => by simp [sameL]
theorem sameL_ne {x y : List S89} (h : x ≠ y) : sameL x y = false := by
  cases e : sameL x y with
  | true => exact absurd ((sameL_iff x y).1 e) h
  | false => rfl
theorem cell_at52 {w : World} {A : Option Addr} {n : Nat} {x : List S89} (h : k89.C w A n x) {j : Nat} (hj : j < x.length) : ∃ ad, A = some ad ∧ w.cell? (ad.add (j * 2)) = some (.int .i32 x[j].f0) ∧ w.cell? ⟨(ad.add (j * 2)).block, (ad.add (j * 2)).off + 1, none⟩ = some (.int .u32 x[j].f1) := by
  have := at_T89 h (j : Int) (by omega) (by have := h.1; omega)
  rw [rdT52_get hj, Int.toNat_natCast] at this
  exact this
set_option maxRecDepth 100000 in
set_option maxHeartbeats 4000000 in
theorem csame_any (A B : Option Addr) (n m c d : Nat) (x y : List S89) (w : World) (hx : k89.C w A n x) (hy : k89.C w B m y) (hn : n ≤ 1000000) (hm : m ≤ 1000000) :
    Calls Try.prog 42 #[.slice A n c, .slice B m d] w fun e w' => e = .returned (.bool (sameL x y)) ∧ Drawn0 w w' := by
  have hlx := hx.1
  have hly := hy.1
  by_cases hnm : n = m
  · subst hnm
    have HX := Aside0.mk hx
    have HY := Aside0.mk hy
    have HL := Aside0.mk (And.intro hlx hly)
    have d0 : ((n : Int) != n) = false := by simp
    clear hx hy hlx hly
    go_enter Try.func42, Try.ntmps42
    go_wp2_with fail
    go_loopw [13] (fun v13 wr => ∃ i : Nat, i ≤ n ∧ v13 = .int .i64 i ∧ Aside0 (x.take i = y.take i ∧ Drawn0 w wr)) (fun v13 _ => n - (intOf v13).toNat)
    case atStart => exact ⟨0, by omega, rfl, ⟨by simp, Drawn0.refl w⟩⟩
    case round =>
      obtain ⟨i, hi, rfl, H⟩ := hrel
      by_cases hlt : i < n
      · have d1 : decide (i < n) = true := decide_eq_true hlt
        have hix : i < x.length := by have := HL.out; omega
        have hiy : i < y.length := by have := HL.out; omega
        obtain ⟨n0, hw⟩ := H.out.2
        subst hw
        obtain ⟨ax, rfl, x0, x1⟩ := cell_at52 HX.out hix
        obtain ⟨ay, rfl, y0, y1⟩ := cell_at52 HY.out hiy
        have hcn := cellR_neq x[i].f0 x[i].f1 y[i].f0 y[i].f1
        have hcg := cellR_guard
        have HE := Aside0.mk (S89_eq (a := x[i]) (b := y[i]))
        have HT := Aside0.mk (And.intro (take_snoc hix) (take_snoc hiy))
        cases hq : (x[i].f0 == y[i].f0 && x[i].f1 == y[i].f1) with
        | true =>
          rw [hq] at hcn HE
          have H2 := Aside0.mk (HE.out.1 rfl)
          generalize x[i].f0 = x0v at *
          generalize x[i].f1 = x1v at *
          generalize y[i].f0 = y0v at *
          generalize y[i].f1 = y1v at *
          rw [Bool.not_true] at hcn
          clear hq HE
          go_wp2_with fail
          go_region
          go_wp2_with fail
          go_roundw
          case rel => exact ⟨i + 1, by omega, by go_num, ⟨by rw [HT.out.1, HT.out.2, H.out.1, H2.out], ⟨⟨n0 + 1, rfl⟩⟩⟩⟩
          case measure => simp [intOf]; omega
        | false =>
          rw [hq] at hcn HE
          have H2 : Aside0 (sameL x y = false) := ⟨sameL_ne (fun e => by
            have h3 := HE.out.2 (by subst e; rfl)
            cases h3)⟩
          generalize x[i].f0 = x0v at *
          generalize x[i].f1 = x1v at *
          generalize y[i].f0 = y0v at *
          generalize y[i].f1 = y1v at *
          rw [Bool.not_false] at hcn
          clear hq HE
          go_wp2_with fail
          go_region
          go_wp2_with fail
          go_ret
          exact ⟨by rw [H2.out]; rfl, ⟨⟨n0 + 1, rfl⟩⟩⟩
      · obtain rfl : i = n := by omega
        have d1 : decide (i < i) = false := decide_eq_false (by omega)
        have H2 : Aside0 (sameL x y = true) := ⟨(sameL_iff x y).2 (by have := H.out.1; rwa [List.take_of_length_le (by have := HL.out; omega), List.take_of_length_le (by have := HL.out; omega)] at this)⟩
        go_wp2_with fail
        go_ret
        exact ⟨by rw [H2.out]; rfl, H.out.2⟩
  · have H2 : Aside0 (sameL x y = false) := ⟨sameL_ne (fun e => hnm (by rw [← hlx, ← hly, e]))⟩
    have d0 : ((n : Int) != m) = true := by simp; omega
    clear hx hy hlx hly
    go_enter Try.func42, Try.ntmps42
    go_wp2_with fail
    go_ret
    exact ⟨by rw [H2.out]; rfl, Drawn0.refl w⟩
end Go.Proofs.Ytkhlalpkkmjfnaa

namespace Go.Proofs.Ytkhlalpkkmjfnaa
open Go.RowKit Go.Proofs.YtkhlalpkkmjfnaaW.PrintWords Go.Proofs.YtkhlalpkkmjfnaaW.PrintLast Go.Proofs.YtkhlalpkkmjfnaaW.PrintMore
set_option linter.unusedVariables false
set_option linter.unusedSimpArgs false

theorem OkC.i32 {x : S30} (h : OkC x) : -2147483648 ≤ x.f0 ∧ x.f0 ≤ 2147483647 := by have := bounds_i32 h.1; omega
theorem OkC.u32 {x : S30} (h : OkC x) : U32 x.f1 := by have := bounds_u32 h.2; unfold U32; omega
end Go.Proofs.Ytkhlalpkkmjfnaa

namespace Go.Proofs.Ytkhlalpkkmjfnaa
open Go.RowKit Go.Proofs.YtkhlalpkkmjfnaaW.PrintWords Go.Proofs.YtkhlalpkkmjfnaaW.PrintLast Go.Proofs.YtkhlalpkkmjfnaaW.PrintMore
set_option linter.unusedVariables false
set_option linter.unusedSimpArgs false

theorem cell_at25 {w : World} {A : Option Addr} {n : Nat} {x : List S30} (h : k30.C w A n x) {j : Nat} (hj : j < x.length) : ∃ ad, A = some ad ∧ w.cell? (ad.add (j * 2)) = some (.int .i32 x[j].f0) ∧ w.cell? ⟨(ad.add (j * 2)).block, (ad.add (j * 2)).off + 1, none⟩ = some (.int .u32 x[j].f1) := by
  have := at_T30 h (j : Int) (by omega) (by have := h.1; omega)
  rw [rdT25_get hj, Int.toNat_natCast] at this
  exact this
end Go.Proofs.Ytkhlalpkkmjfnaa

namespace Go.Proofs.Ytkhlalpkkmjfnaa
open Go.RowKit Go.Proofs.YtkhlalpkkmjfnaaW.PrintWords Go.Proofs.YtkhlalpkkmjfnaaW.PrintLast Go.Proofs.YtkhlalpkkmjfnaaW.PrintMore
set_option linter.unusedVariables false
set_option linter.unusedSimpArgs false

theorem view_f1 (f : Nat → S30) (m : Nat) (o : Int) (i : Nat) : (viewF f m o i).f1 = (f i).f1 := by unfold viewF; split <;> rfl
end Go.Proofs.Ytkhlalpkkmjfnaa

namespace Go.Proofs.Ytkhlalpkkmjfnaa
open Go.RowKit Go.Proofs.YtkhlalpkkmjfnaaW.PrintWords Go.Proofs.YtkhlalpkkmjfnaaW.PrintLast Go.Proofs.YtkhlalpkkmjfnaaW.PrintMore
set_option linter.unusedVariables false
set_option linter.unusedSimpArgs false

/-- The same, of the board's cells. -/
theorem C_one_cell2 {w : World} {g : Nat} {x : S30} (h : w.heap[g]? = some (.cells #[.int .i32 x.f0, .int .u32 x.f1] 30 (0, 0))) : ReadsRow (fun (y : S30) cs => cs = [.int .i32 y.f0, .int .u32 y.f1]) 2 w (some ⟨g, 0, none⟩) 1 [x] := by
  have h1 := C_one_cell h
  refine ⟨h1.1, h1.2.1, fun hn => ?_⟩
  obtain ⟨ad, e, hj⟩ := h1.2.2 hn
  refine ⟨ad, e, fun j p hp => ?_⟩
  obtain ⟨cs, a, b, c⟩ := hj j p hp
  exact ⟨cs, a, k30_open b, c⟩
theorem delta_info (a b c d : Value) : (Try.prog.info? 41).map (·.size) = some (#[a, b, c, d] : Array Value).size := by kernel_rfl

set_option maxRecDepth 100000 in
set_option maxHeartbeats 8000000 in
theorem of_any (f : Nat → S30) (n t : Nat) (o tk : Int) (w : World) (hn : n ≤ 48) (ht : t < 18446744073709551616) (hf : ∀ k, k < n → U32 (f k).f1) :
    Calls Try.prog 13 #[.agg (boardC f n), .int .u64 t, .int .i64 o, .int .u32 tk] w fun e w' => ∃ vP vC, e = .returned (.agg #[.int .u32 tk, .int .u32 (sumB true (listF (viewF f n o) n)), vP, vC]) ∧
      (Kd.int .u8).R 5 w' w.heap.size (fun _ => True) vP (plL t n) ∧ k30.R 30 w' w.heap.size (fun _ => True) vC (clL (viewF f n o) t n) ∧ Below w.heap.size w w' := by
  have hz := zero_board
  have HI := fun f m => Aside0.mk (board_info f m)
  have HO := fun f m => Aside0.mk (boardC_one f m)
  have HN := Aside0.mk hn
  have HT := Aside0.mk ht
  have HU : Aside0 (∀ k, k < n → U32 (viewF f n o k).f1) := ⟨fun k hk => by rw [view_f1]; exact hf k hk⟩
  have HP0 := Aside0.mk (((Hp.start w).alloc (.cells (boardC f n) 34)).allocAt (.cells #[.int .u32 0, .int .u32 0, .slice none 0 0, .slice none 0 0] 41) (w.heap.size + 1) (by simp))
  clear hn ht hf
  go_enter Try.func13, Try.ntmps13
  go_wp2_with (first | (refine wpList_load_row_g 34 (.tmp 4) rfl (w.heap.size) rfl rfl 34 _ (0, 0) _ (HP0.out.get (i := 1) rfl) Try.underlying34 rfl (HI _ _).out ?_))
  refine (view_any f n o _ HN.out).mono ?_
  rintro e w1 ⟨rfl, hb1⟩
  have HP1 := Aside0.mk (HP0.out.call hb1)
  clear hb1 HP0
  have HV := Aside0.mk (((HP1.out.alloc (.cells (boardC (fun _ => z30) 0) 34)).setRow (i := 0) rfl (boardC (viewF f n o) n)))
  have HZ := Aside0.mk (blk_new w1 (.cells (boardC (fun _ => z30) 0) 34))
  clear HP1
  obtain ⟨f2, hf2⟩ : ∃ f2, viewF f n o = f2 := ⟨_, rfl⟩
  rw [hf2]
  rw [hf2] at HU HV
  have HF2 := Aside0.mk hf2
  clear hf2
  go_wp2_with (first | (refine wpList_load_row_g 34 (.tmp 9) rfl (w1.heap.size) rfl rfl 34 _ (0, 0) _ (HV.out.get (i := 0) rfl) Try.underlying34 rfl (HI _ _).out ?_) | (refine wpList_store_row rfl 34 (.tmp 9) (.tmp 16) rfl (w1.heap.size) (boardC f2 n) rfl rfl 34 _ HZ.out (HI _ _).out (by rw [boardC_size, boardC_size]) (HO _ _).out ?_))
  generalize (w1.alloc (.cells (boardC (fun _ => z30) 0) 34)).setRow w1.heap.size (boardC f2 n) = w2 at *
  generalize w1.heap.size = gv at *
  refine (hash_any f2 n _ HN.out HU.out).mono ?_
  rintro e w3 ⟨rfl, hb3⟩
  have HP3 := Aside0.mk (HV.out.call hb3)
  clear hb3 HV HZ
  obtain ⟨hs, hhs⟩ : ∃ hs, sumB true (listF f2 n) = hs := ⟨_, rfl⟩
  rw [hhs]
  have HHS := Aside0.mk hhs
  clear hhs
  have HP4 := Aside0.mk (HP3.out.alloc (.cells #[.int .u32 tk, .int .u32 hs, .slice none 0 0, .slice none 0 0] 41))
  clear HP3
  go_wp2_with (first | (refine wpList_load_row_g 34 (.tmp 9) rfl gv rfl rfl 34 _ (0, 0) _ (HP4.out.get (i := 1) rfl) Try.underlying34 rfl (HI _ _).out ?_))
  refine (len_any f2 n _).mono ?_
  rintro e w4 ⟨rfl, hb4⟩
  have HP5 := Aside0.mk (HP4.out.call hb4)
  clear hb4 HP4
  generalize w3.heap.size = gd at *
  go_wp2_with fail
  generalize hB : w.heap.size = B at *
  have HBE := Aside0.mk hB
  clear hB
  go_loopw [23] (fun v23 wr => ∃ i : Nat, i ≤ n ∧ v23 = .int .i64 i ∧ ∃ vP vC : Value, Aside0 (Hp B w wr [(gd, .cells #[.int .u32 tk, .int .u32 hs, vP, vC] 41 (0, 0)), (gv, .cells (boardC f2 n) 34 (0, 0)), (B + 1, .cells #[.int .u32 0, .int .u32 0, .slice none 0 0, .slice none 0 0] 41 (0, 0)), (B, .cells (boardC f n) 34 (0, 0))] [] ∧ (Kd.int .u8).R 5 wr B (fun _ => True) vP (plL t i) ∧ k30.R 30 wr B (fun _ => True) vC (clL f2 t i))) (fun v23 _ => n - (intOf v23).toNat)
  case atStart => exact ⟨0, by omega, rfl, .slice none 0 0, .slice none 0 0, ⟨HP5.out, Kd.R_nil _ _ _ _ _, Kd.R_nil _ _ _ _ _⟩⟩
  case round =>
    clear HP5
    obtain ⟨i, hi, rfl, vP, vC, H⟩ := hrel
    by_cases hlt : i < n
    · have d1 : decide (i < n) = true := decide_eq_true hlt
      have hi48 : (i : Int) < n := by omega
      have hi0 : (0 : Int) ≤ i := by omega
      have hn48 : n ≤ 48 := HN.out
      cases hb : bitT t i with
      | false =>
        have e2 := bit_no HT.out hb
        have HPL := Aside0.mk (plL_no hb)
        have HCL := Aside0.mk (clL_no f2 hb)
        clear hb
        go_wp2_with fail
        go_roundw
        case rel => exact ⟨i + 1, by omega, by go_num, vP, vC, ⟨by rw [HPL.out, HCL.out]; exact H.out⟩⟩
        case measure => simp [intOf]; omega
      | true =>
        have e2 := bit_yes HT.out hb
        have HPL := Aside0.mk (plL_yes hb)
        have HCL := Aside0.mk (clL_yes f2 hb)
        have HPN : Aside0 ((plL t i).length ≤ 48 ∧ (clL f2 t i).length ≤ 48) := ⟨by have := plL_len t i; have := clL_len f2 t i; omega⟩
        clear hb
        go_wp2_with (first | (refine wpList_load_row_g 34 (.tmp 9) rfl gv rfl rfl 34 _ (0, 0) _ (H.out.1.get (i := 1) rfl) Try.underlying34 rfl (HI _ _).out ?_))
        refine (at_any f2 n i _ hlt HN.out).mono ?_
        rintro e z1 ⟨rfl, hb1⟩
        have H1 : Aside0 (Hp B w z1 [(gd, .cells #[.int .u32 tk, .int .u32 hs, vP, vC] 41 (0, 0)), (gv, .cells (boardC f2 n) 34 (0, 0)), (B + 1, .cells #[.int .u32 0, .int .u32 0, .slice none 0 0, .slice none 0 0] 41 (0, 0)), (B, .cells (boardC f n) 34 (0, 0))] [] ∧ (Kd.int .u8).R 5 z1 B (fun _ => True) vP (plL t i) ∧ k30.R 30 z1 B (fun _ => True) vC (clL f2 t i)) := ⟨H.out.1.call hb1, Kd.R_below H.out.2.1 hb1, Kd.R_below H.out.2.2 hb1⟩
        clear hb1 H
        obtain ⟨x, hx⟩ : ∃ x, f2 i = x := ⟨_, rfl⟩
        rw [hx]
        rw [hx] at HCL
        clear hx
        go_wp2_with fail
        have H2 := Aside0.mk (H1.out.1.alloc (.cells #[.int .i32 x.f0, .int .u32 x.f1] 30))
        have RP := Aside0.mk (Kd.R_below H1.out.2.1 (below_alloc (Below.refl _ _) (.cells #[.int .i32 x.f0, .int .u32 x.f1] 30)))
        have RC := Aside0.mk (Kd.R_below H1.out.2.2 (below_alloc (Below.refl _ _) (.cells #[.int .i32 x.f0, .int .u32 x.f1] 30)))
        have GX : Aside0 (z1.heap.size ≠ gd ∧ some z1.heap.size ≠ vP.ownBlock ∧ some z1.heap.size ≠ vC.ownBlock) := ⟨fun e => by have := H1.out.1.lt (i := 0) rfl; omega, fun e => by have := Kd.R_lt H1.out.2.1 _ e.symm; omega, fun e => by have := Kd.R_lt H1.out.2.2 _ e.symm; omega⟩
        clear H1
        generalize z1.alloc (.cells #[.int .i32 x.f0, .int .u32 x.f1] 30) = z2 at *
        generalize z1.heap.size = gc at *
        have AP := Aside0.mk (Apart2.mk' RP.out RC.out (H2.out.get (i := 1) rfl) (by decide) (by decide) (by decide))
        have IX : Aside0 (IntKind.u8.wrap (i : Int) = (i : Int)) := ⟨IntWalk.u8_in _ (by omega)⟩
        have GN := Aside0.mk H2.out.le
        have BG := Aside0.mk (H2.out.ge (i := 1) rfl)
        refine region3 (W := z2)
          [⟨fun _ v => v = .pointer (some ⟨gd, 2, none⟩), none, fun _ => True⟩,
           ⟨fun _ v => v = vP, none, fun (w : World) => ∃ c3, w.heap[gd]? = some (.cells #[.int .u32 tk, .int .u32 hs, vP, c3] 41 (0, 0))⟩,
           ⟨fun _ v => v = .int .i64 i, none, fun _ => True⟩,
           ⟨fun _ v => v = .int .u8 i, none, fun _ => True⟩,
           ⟨fun (w : World) (v : Value) => ∃ b, v = .slice (some ⟨b, 0, none⟩) 1 1 ∧ z2.heap.size ≤ b ∧ w.heap[b]? = some (.cells #[.int .u8 i] 5 (0, 0)), none, fun _ => True⟩,
           ⟨fun (w : World) (v : Value) => (Kd.int .u8).R 5 w B (fun _ => True) v (plL t i ++ [(i : Int)]) ∧ (v.ownBlock = vP.ownBlock ∨ ∃ b, v.ownBlock = some b ∧ z2.heap.size ≤ b), none, fun (w : World) => (Kd.int .u8).R 5 w B (fun _ => True) vP (plL t i)⟩,
           ⟨fun _ v => v = .pointer (some ⟨gd, 3, none⟩), none, fun _ => True⟩,
           ⟨fun _ v => v = vC, none, fun (w : World) => ∃ c2, w.heap[gd]? = some (.cells #[.int .u32 tk, .int .u32 hs, c2, vC] 41 (0, 0))⟩,
           ⟨fun _ v => v = .agg #[.int .i32 x.f0, .int .u32 x.f1], none, fun _ => True⟩,
           ⟨fun (w : World) (v : Value) => ∃ b, v = .slice (some ⟨b, 0, none⟩) 1 1 ∧ z2.heap.size ≤ b ∧ w.heap[b]? = some (.cells #[.int .i32 x.f0, .int .u32 x.f1] 30 (0, 0)), none, fun _ => True⟩,
           ⟨fun (w : World) (v : Value) => k30.R 30 w B (fun _ => True) v (clL f2 t i ++ [x]) ∧ (v.ownBlock = vC.ownBlock ∨ ∃ b, v.ownBlock = some b ∧ z2.heap.size ≤ b), none, fun (w : World) => k30.R 30 w B (fun _ => True) vC (clL f2 t i)⟩,
           ⟨fun _ v => v = .pointer (some ⟨gd, 2, none⟩), none, fun _ => True⟩,
           ⟨fun _ _ => True, some (5, fun (w : World) (v : Value) => ∃ c3, w.heap[gd]? = some (.cells #[.int .u32 tk, .int .u32 hs, v, c3] 41 (0, 0))), fun _ => True⟩,
           ⟨fun _ v => v = .pointer (some ⟨gd, 3, none⟩), none, fun _ => True⟩,
           ⟨fun _ _ => True, some (10, fun (w : World) (v : Value) => ∃ c2, w.heap[gd]? = some (.cells #[.int .u32 tk, .int .u32 hs, c2, v] 41 (0, 0))), fun _ => True⟩]
          [(5, vP.ownBlock, fun _ _ => True), (10, vC.ownBlock, fun _ _ => True), (12, (some gd), fun z z' => ∃ u, z' = z.setCell ⟨gd, 2, none⟩ u), (14, (some gd), fun z z' => ∃ u, z' = z.setCell ⟨gd, 3, none⟩ u)]
          (fun j =>  none)
          (Cl2 B z2 gd 41 (.int .u32 tk) (.int .u32 hs) vP.ownBlock vC.ownBlock)
          [(0, some 37), (1, some 38), (2, some 39), (3, some 40), (4, some 41), (5, some 42), (6, some 43), (7, some 44), (8, some 45), (9, some 46), (10, some 47), (11, some 48), (12, none), (13, some 49), (14, none)]
          []
          (by kernel_rfl) (by kernel_rfl) (by kernel_rfl) (by kernel_rfl) ?q8_1c ?q8_1u ?q8_1g ⟨?q8_1t0, ?q8_1t1, ?q8_1t2, ?q8_1t3, ?q8_1t4, ?q8_1t5, ?q8_1t6, ?q8_1t7, ?q8_1t8, ?q8_1t9, ?q8_1t10, ?q8_1t11, ?q8_1t12, ?q8_1t13, ?q8_1t14, trivial⟩ ⟨?q8_1o0, ?q8_1o1, ?q8_1o2, ?q8_1o3, ?q8_1o4, ?q8_1o5, ?q8_1o6, ?q8_1o7, ?q8_1o8, ?q8_1o9, ?q8_1o10, ?q8_1o11, ?q8_1o12, ?q8_1o13, ?q8_1o14, trivial⟩ ?q8_1e
        case q8_1c => exact ⟨below_drew (Below.refl _ _), ⟨vP, vC, H2.out.get (i := 1) rfl⟩, GN.out, fun _ _ _ _ _ => rfl⟩
        case q8_1u =>
          intro i hi
          match i, hi with
          | 0, _ => exact trivial
          | 1, _ => exact ⟨vC, H2.out.get (i := 1) rfl⟩
          | 2, _ => exact trivial
          | 3, _ => exact trivial
          | 4, _ => exact trivial
          | 5, _ => exact RP.out
          | 6, _ => exact trivial
          | 7, _ => exact ⟨vP, H2.out.get (i := 1) rfl⟩
          | 8, _ => exact trivial
          | 9, _ => exact trivial
          | 10, _ => exact RC.out
          | 11, _ => exact trivial
          | 12, _ => exact trivial
          | 13, _ => exact trivial
          | 14, _ => exact trivial
          | i + 15, hi => exact absurd hi (by show ¬ (i + 15 < 15); omega)
        case q8_1g =>
          intro j hj; cases hj
        case q8_1t0 => exact ⟨StabW.const _, trivial, StabU.true _⟩
        case q8_1t1 => exact ⟨StabW.const _, trivial, ⟨(by intro hne hdep w w' hg he h; first | (exact absurd (hdep _ rfl) (by decide +kernel)) | ((obtain ⟨c3, h⟩ := h; first | exact ⟨c3, (hg.block gd (blk_lt h) (by first | exact AP.out.gp | exact AP.out.gc)).trans h⟩ | (obtain ⟨u, rfl⟩ := he; exact ⟨u, blk_set h 3 u⟩)))), (by intro hne hdep w w' hg he h; first | (exact absurd (hdep _ rfl) (by decide +kernel)) | ((obtain ⟨c3, h⟩ := h; first | exact ⟨c3, (hg.block gd (blk_lt h) (by first | exact AP.out.gp | exact AP.out.gc)).trans h⟩ | (obtain ⟨u, rfl⟩ := he; exact ⟨u, blk_set h 3 u⟩)))), (by intro hne hdep w w' hg he h; first | (exact absurd (hdep _ rfl) (by decide +kernel)) | ((obtain ⟨c3, h⟩ := h; first | exact ⟨c3, (hg.block gd (blk_lt h) (by first | exact AP.out.gp | exact AP.out.gc)).trans h⟩ | (obtain ⟨u, rfl⟩ := he; exact ⟨u, blk_set h 3 u⟩)))), (by intro hne hdep w w' hg he h; first | (exact absurd (hdep _ rfl) (by decide +kernel)) | ((obtain ⟨c3, h⟩ := h; first | exact ⟨c3, (hg.block gd (blk_lt h) (by first | exact AP.out.gp | exact AP.out.gc)).trans h⟩ | (obtain ⟨u, rfl⟩ := he; exact ⟨u, blk_set h 3 u⟩)))), (by intro w w' hb h; (obtain ⟨c3, h⟩ := h; exact ⟨c3, blk_below h hb⟩))⟩⟩
        case q8_1t2 => exact ⟨StabW.const _, trivial, StabU.true _⟩
        case q8_1t3 => exact ⟨StabW.const _, trivial, StabU.true _⟩
        case q8_1t4 => exact ⟨⟨(by intro hne w w' v hg he h; (obtain ⟨b, h1, h2, h3⟩ := h; exact ⟨b, h1, h2, (hg.block b (blk_lt h3) (by first | exact (AP.out.new b h2).1 | exact (AP.out.new b h2).2.1 | exact (AP.out.new b h2).2.2)).trans h3⟩)), (by intro hne w w' v hg he h; (obtain ⟨b, h1, h2, h3⟩ := h; exact ⟨b, h1, h2, (hg.block b (blk_lt h3) (by first | exact (AP.out.new b h2).1 | exact (AP.out.new b h2).2.1 | exact (AP.out.new b h2).2.2)).trans h3⟩)), (by intro hne w w' v hg he h; (obtain ⟨b, h1, h2, h3⟩ := h; exact ⟨b, h1, h2, (hg.block b (blk_lt h3) (by first | exact (AP.out.new b h2).1 | exact (AP.out.new b h2).2.1 | exact (AP.out.new b h2).2.2)).trans h3⟩)), (by intro hne w w' v hg he h; (obtain ⟨b, h1, h2, h3⟩ := h; exact ⟨b, h1, h2, (hg.block b (blk_lt h3) (by first | exact (AP.out.new b h2).1 | exact (AP.out.new b h2).2.1 | exact (AP.out.new b h2).2.2)).trans h3⟩)), (by intro w w' v hb h; (obtain ⟨b, h1, h2, h3⟩ := h; exact ⟨b, h1, h2, blk_below h3 hb⟩))⟩, trivial, StabU.true _⟩
        case q8_1t5 => exact ⟨⟨fun hne => absurd rfl hne, (by intro hne w w' v hg he h; (exact ⟨Kd.R_grown2 h.1 rfl hg (by first | exact (AP.out.newP h.2).1 | exact (AP.out.newP h.2).2), h.2⟩)), (by intro hne w w' v hg he h; (exact ⟨Kd.R_grown2 h.1 rfl hg (by first | exact (AP.out.newP h.2).1 | exact (AP.out.newP h.2).2), h.2⟩)), (by intro hne w w' v hg he h; (exact ⟨Kd.R_grown2 h.1 rfl hg (by first | exact (AP.out.newP h.2).1 | exact (AP.out.newP h.2).2), h.2⟩)), (by intro w w' v hb h; exact ⟨Kd.R_below h.1 hb, h.2⟩)⟩, trivial, ⟨fun hne => absurd rfl hne, (by intro hne hdep w w' hg he h; first | (exact absurd (hdep _ rfl) (by decide +kernel)) | ((exact Kd.R_grown2 h rfl hg (by first | exact (AP.out.newP (.inl rfl)).1 | exact (AP.out.newP (.inl rfl)).2)))), (by intro hne hdep w w' hg he h; first | (exact absurd (hdep _ rfl) (by decide +kernel)) | ((exact Kd.R_grown2 h rfl hg (by first | exact (AP.out.newP (.inl rfl)).1 | exact (AP.out.newP (.inl rfl)).2)))), (by intro hne hdep w w' hg he h; first | (exact absurd (hdep _ rfl) (by decide +kernel)) | ((exact Kd.R_grown2 h rfl hg (by first | exact (AP.out.newP (.inl rfl)).1 | exact (AP.out.newP (.inl rfl)).2)))), (by intro w w' hb h; exact Kd.R_below h hb)⟩⟩
        case q8_1t6 => exact ⟨StabW.const _, trivial, StabU.true _⟩
        case q8_1t7 => exact ⟨StabW.const _, trivial, ⟨(by intro hne hdep w w' hg he h; first | (exact absurd (hdep _ rfl) (by decide +kernel)) | ((obtain ⟨c2, h⟩ := h; first | exact ⟨c2, (hg.block gd (blk_lt h) (by first | exact AP.out.gp | exact AP.out.gc)).trans h⟩ | (obtain ⟨u, rfl⟩ := he; exact ⟨u, blk_set h 2 u⟩)))), (by intro hne hdep w w' hg he h; first | (exact absurd (hdep _ rfl) (by decide +kernel)) | ((obtain ⟨c2, h⟩ := h; first | exact ⟨c2, (hg.block gd (blk_lt h) (by first | exact AP.out.gp | exact AP.out.gc)).trans h⟩ | (obtain ⟨u, rfl⟩ := he; exact ⟨u, blk_set h 2 u⟩)))), (by intro hne hdep w w' hg he h; first | (exact absurd (hdep _ rfl) (by decide +kernel)) | ((obtain ⟨c2, h⟩ := h; first | exact ⟨c2, (hg.block gd (blk_lt h) (by first | exact AP.out.gp | exact AP.out.gc)).trans h⟩ | (obtain ⟨u, rfl⟩ := he; exact ⟨u, blk_set h 2 u⟩)))), (by intro hne hdep w w' hg he h; first | (exact absurd (hdep _ rfl) (by decide +kernel)) | ((obtain ⟨c2, h⟩ := h; first | exact ⟨c2, (hg.block gd (blk_lt h) (by first | exact AP.out.gp | exact AP.out.gc)).trans h⟩ | (obtain ⟨u, rfl⟩ := he; exact ⟨u, blk_set h 2 u⟩)))), (by intro w w' hb h; (obtain ⟨c2, h⟩ := h; exact ⟨c2, blk_below h hb⟩))⟩⟩
        case q8_1t8 => exact ⟨StabW.const _, trivial, StabU.true _⟩
        case q8_1t9 => exact ⟨⟨(by intro hne w w' v hg he h; (obtain ⟨b, h1, h2, h3⟩ := h; exact ⟨b, h1, h2, (hg.block b (blk_lt h3) (by first | exact (AP.out.new b h2).1 | exact (AP.out.new b h2).2.1 | exact (AP.out.new b h2).2.2)).trans h3⟩)), (by intro hne w w' v hg he h; (obtain ⟨b, h1, h2, h3⟩ := h; exact ⟨b, h1, h2, (hg.block b (blk_lt h3) (by first | exact (AP.out.new b h2).1 | exact (AP.out.new b h2).2.1 | exact (AP.out.new b h2).2.2)).trans h3⟩)), (by intro hne w w' v hg he h; (obtain ⟨b, h1, h2, h3⟩ := h; exact ⟨b, h1, h2, (hg.block b (blk_lt h3) (by first | exact (AP.out.new b h2).1 | exact (AP.out.new b h2).2.1 | exact (AP.out.new b h2).2.2)).trans h3⟩)), (by intro hne w w' v hg he h; (obtain ⟨b, h1, h2, h3⟩ := h; exact ⟨b, h1, h2, (hg.block b (blk_lt h3) (by first | exact (AP.out.new b h2).1 | exact (AP.out.new b h2).2.1 | exact (AP.out.new b h2).2.2)).trans h3⟩)), (by intro w w' v hb h; (obtain ⟨b, h1, h2, h3⟩ := h; exact ⟨b, h1, h2, blk_below h3 hb⟩))⟩, trivial, StabU.true _⟩
        case q8_1t10 => exact ⟨⟨(by intro hne w w' v hg he h; (exact ⟨Kd.R_grown2 h.1 rfl hg (by first | exact (AP.out.newC h.2).1 | exact (AP.out.newC h.2).2), h.2⟩)), fun hne => absurd rfl hne, (by intro hne w w' v hg he h; (exact ⟨Kd.R_grown2 h.1 rfl hg (by first | exact (AP.out.newC h.2).1 | exact (AP.out.newC h.2).2), h.2⟩)), (by intro hne w w' v hg he h; (exact ⟨Kd.R_grown2 h.1 rfl hg (by first | exact (AP.out.newC h.2).1 | exact (AP.out.newC h.2).2), h.2⟩)), (by intro w w' v hb h; exact ⟨Kd.R_below h.1 hb, h.2⟩)⟩, trivial, ⟨(by intro hne hdep w w' hg he h; first | (exact absurd (hdep _ rfl) (by decide +kernel)) | ((exact Kd.R_grown2 h rfl hg (by first | exact (AP.out.newC (.inl rfl)).1 | exact (AP.out.newC (.inl rfl)).2)))), fun hne => absurd rfl hne, (by intro hne hdep w w' hg he h; first | (exact absurd (hdep _ rfl) (by decide +kernel)) | ((exact Kd.R_grown2 h rfl hg (by first | exact (AP.out.newC (.inl rfl)).1 | exact (AP.out.newC (.inl rfl)).2)))), (by intro hne hdep w w' hg he h; first | (exact absurd (hdep _ rfl) (by decide +kernel)) | ((exact Kd.R_grown2 h rfl hg (by first | exact (AP.out.newC (.inl rfl)).1 | exact (AP.out.newC (.inl rfl)).2)))), (by intro w w' hb h; exact Kd.R_below h hb)⟩⟩
        case q8_1t11 => exact ⟨StabW.const _, trivial, StabU.true _⟩
        case q8_1t12 => exact ⟨StabW.const _, ⟨⟨(by intro hne w w' v hg he h; (obtain ⟨c3, h⟩ := h; first | exact ⟨c3, (hg.block gd (blk_lt h) (by first | exact AP.out.gp | exact AP.out.gc)).trans h⟩ | (obtain ⟨u, rfl⟩ := he; exact ⟨u, blk_set h 3 u⟩))), (by intro hne w w' v hg he h; (obtain ⟨c3, h⟩ := h; first | exact ⟨c3, (hg.block gd (blk_lt h) (by first | exact AP.out.gp | exact AP.out.gc)).trans h⟩ | (obtain ⟨u, rfl⟩ := he; exact ⟨u, blk_set h 3 u⟩))), fun hne => absurd rfl hne, (by intro hne w w' v hg he h; (obtain ⟨c3, h⟩ := h; first | exact ⟨c3, (hg.block gd (blk_lt h) (by first | exact AP.out.gp | exact AP.out.gc)).trans h⟩ | (obtain ⟨u, rfl⟩ := he; exact ⟨u, blk_set h 3 u⟩))), (by intro w w' v hb h; (obtain ⟨c3, h⟩ := h; exact ⟨c3, blk_below h hb⟩))⟩, fun o ho => by obtain rfl := Option.some.inj ho; decide +kernel⟩, StabU.true _⟩
        case q8_1t13 => exact ⟨StabW.const _, trivial, StabU.true _⟩
        case q8_1t14 => exact ⟨StabW.const _, ⟨⟨(by intro hne w w' v hg he h; (obtain ⟨c2, h⟩ := h; first | exact ⟨c2, (hg.block gd (blk_lt h) (by first | exact AP.out.gp | exact AP.out.gc)).trans h⟩ | (obtain ⟨u, rfl⟩ := he; exact ⟨u, blk_set h 2 u⟩))), (by intro hne w w' v hg he h; (obtain ⟨c2, h⟩ := h; first | exact ⟨c2, (hg.block gd (blk_lt h) (by first | exact AP.out.gp | exact AP.out.gc)).trans h⟩ | (obtain ⟨u, rfl⟩ := he; exact ⟨u, blk_set h 2 u⟩))), (by intro hne w w' v hg he h; (obtain ⟨c2, h⟩ := h; first | exact ⟨c2, (hg.block gd (blk_lt h) (by first | exact AP.out.gp | exact AP.out.gc)).trans h⟩ | (obtain ⟨u, rfl⟩ := he; exact ⟨u, blk_set h 2 u⟩))), fun hne => absurd rfl hne, (by intro w w' v hb h; (obtain ⟨c2, h⟩ := h; exact ⟨c2, blk_below h hb⟩))⟩, fun o ho => by obtain rfl := Option.some.inj ho; decide +kernel⟩, StabU.true _⟩
        case q8_1o0 =>
          intro vs w hC hV hU hUk
          rw [if_pos (by kernel_rfl)]
          generalize hρ : rho _ _ _ vs = ρ
          have e10 : ρ (.tmp 10) = .pointer (some ⟨gd, 0, none⟩) := by rw [← hρ]; kernel_rfl
          clear hρ
          refine runs_val (v := .pointer (some ⟨gd, 2, none⟩)) (w' := w) ?_ ⟨hC, StepW.refl _ _ _, rfl, trivial⟩
          clear hV hU hUk
          go_simp <;> (first | exact IntWalk.u64_in _ (by omega) | exact IntWalk.u32_in _ (by omega) | exact IntWalk.u16_in _ (by omega) | exact IntWalk.u8_in _ (by omega) | exact IntWalk.i64_in _ (by omega) | skip)
        case q8_1o1 =>
          intro vs w hC hV hU hUk
          rw [if_pos (by kernel_rfl)]
          generalize hρ : rho _ _ _ vs = ρ
          have d37 : (vs 0) = .pointer (some ⟨gd, 2, none⟩) := (hV 0 (by kernel_rfl)).1
          have e37 : ρ (.tmp 37) = vs 0 := by rw [← hρ]; kernel_rfl
          rw [d37] at e37; clear d37
          clear hρ
          obtain ⟨c3, hu⟩ : ∃ c3, w.heap[gd]? = some (.cells #[.int .u32 tk, .int .u32 hs, vP, c3] 41 (0, 0)) := hU
          have c0 := blk_cell hu 2
          refine runs_val (v := vP) (w' := w) ?_ ⟨hC, StepW.refl _ _ _, rfl, trivial⟩
          clear hV hUk hC hu
          go_simp
        case q8_1o2 =>
          intro vs w hC hV hU hUk
          rw [if_pos (by kernel_rfl)]
          generalize hρ : rho _ _ _ vs = ρ
          have e11 : ρ (.tmp 11) = .int .i64 i := by rw [← hρ]; kernel_rfl
          clear hρ
          refine runs_val (v := .int .i64 i) (w' := w) ?_ ⟨hC, StepW.refl _ _ _, rfl, trivial⟩
          clear hV hU hUk
          go_simp <;> (first | exact IntWalk.u64_in _ (by omega) | exact IntWalk.u32_in _ (by omega) | exact IntWalk.u16_in _ (by omega) | exact IntWalk.u8_in _ (by omega) | exact IntWalk.i64_in _ (by omega) | skip)
        case q8_1o3 =>
          intro vs w hC hV hU hUk
          rw [if_pos (by kernel_rfl)]
          generalize hρ : rho _ _ _ vs = ρ
          have d39 : (vs 2) = .int .i64 i := (hV 2 (by kernel_rfl)).1
          have e39 : ρ (.tmp 39) = vs 2 := by rw [← hρ]; kernel_rfl
          rw [d39] at e39; clear d39
          clear hρ
          have ix := IX.out
          refine runs_val (v := .int .u8 i) (w' := w) ?_ ⟨hC, StepW.refl _ _ _, rfl, trivial⟩
          clear hV hU hUk hC
          go_simp
        case q8_1o4 =>
          intro vs w hC hV hU hUk
          rw [if_pos (by kernel_rfl)]
          generalize hρ : rho _ _ _ vs = ρ
          have d40 : (vs 3) = .int .u8 i := (hV 3 (by kernel_rfl)).1
          have e40 : ρ (.tmp 40) = vs 3 := by rw [← hρ]; kernel_rfl
          rw [d40] at e40; clear d40
          clear hρ
          refine runs_val (v := .slice (some ⟨w.heap.size, 0, none⟩) 1 1) (w' := w.alloc (.cells #[.int .u8 i] 5)) ?_ ⟨hC.below (below_alloc (Below.refl _ _) _), StepW.miss (below_alloc (Below.refl _ _) _) rfl, ⟨w.heap.size, rfl, hC.1.size, blk_new _ _⟩, trivial⟩
          clear hV hU hUk hC
          go_simp
        case q8_1o5 =>
          intro vs w hC hV hU hUk
          rw [if_pos (by kernel_rfl)]
          generalize hρ : rho _ _ _ vs = ρ
          have d38 : (vs 1) = vP := (hV 1 (by kernel_rfl)).1
          have e38 : ρ (.tmp 38) = vs 1 := by rw [← hρ]; kernel_rfl
          rw [d38] at e38; clear d38
          have d41 : (fun (w : World) (v : Value) => ∃ b, v = .slice (some ⟨b, 0, none⟩) 1 1 ∧ z2.heap.size ≤ b ∧ w.heap[b]? = some (.cells #[.int .u8 i] 5 (0, 0))) w (vs 4) := (hV 4 (by kernel_rfl)).1
          have e41 : ρ (.tmp 41) = vs 4 := by rw [← hρ]; kernel_rfl
          obtain ⟨b, hve41, hb1, hb2⟩ := d41
          clear hρ
          rw [hve41] at e41
          refine runs_append (Kd.int .u8) (Rr := fun x cs => cs = [.int .u8 x]) B 38 41 39 5 (.int .u8 0) 1 rfl Try.underlying39 np_info rfl (by decide) (by decide) vP (plL t i) [(i : Int)] (some ⟨b, 0, none⟩) 1 1 (fun _ => True) (fun _ => False) e38 e41 hU (C_of_block (k := .u8) hb2 ⟨rfl, rfl, by decide⟩) (fun _ _ h => h) (fun _ h => h.elim) (fun _ _ => trivial) hC.le (by have := HPN.out; omega) ?_
          intro v1 w1 h1 hg1 hat
          exact ⟨hC.row hg1 (.inl rfl) (fun k hk => Kd.R_base hU k hk) AP.out.gp, StepW.hit hg1 trivial rfl, ⟨h1, hat.imp_right (fun ⟨b, h1, h2⟩ => ⟨b, h1, Nat.le_trans hC.1.size h2⟩)⟩, trivial⟩
        case q8_1o6 =>
          intro vs w hC hV hU hUk
          rw [if_pos (by kernel_rfl)]
          generalize hρ : rho _ _ _ vs = ρ
          have e10 : ρ (.tmp 10) = .pointer (some ⟨gd, 0, none⟩) := by rw [← hρ]; kernel_rfl
          clear hρ
          refine runs_val (v := .pointer (some ⟨gd, 3, none⟩)) (w' := w) ?_ ⟨hC, StepW.refl _ _ _, rfl, trivial⟩
          clear hV hU hUk
          go_simp <;> (first | exact IntWalk.u64_in _ (by omega) | exact IntWalk.u32_in _ (by omega) | exact IntWalk.u16_in _ (by omega) | exact IntWalk.u8_in _ (by omega) | exact IntWalk.i64_in _ (by omega) | skip)
        case q8_1o7 =>
          intro vs w hC hV hU hUk
          rw [if_pos (by kernel_rfl)]
          generalize hρ : rho _ _ _ vs = ρ
          have d43 : (vs 6) = .pointer (some ⟨gd, 3, none⟩) := (hV 6 (by kernel_rfl)).1
          have e43 : ρ (.tmp 43) = vs 6 := by rw [← hρ]; kernel_rfl
          rw [d43] at e43; clear d43
          clear hρ
          obtain ⟨c2, hu⟩ : ∃ c2, w.heap[gd]? = some (.cells #[.int .u32 tk, .int .u32 hs, c2, vC] 41 (0, 0)) := hU
          have c0 := blk_cell hu 3
          refine runs_val (v := vC) (w' := w) ?_ ⟨hC, StepW.refl _ _ _, rfl, trivial⟩
          clear hV hUk hC hu
          go_simp
        case q8_1o8 =>
          intro vs w hC hV hU hUk
          rw [if_pos (by kernel_rfl)]
          generalize hρ : rho _ _ _ vs = ρ
          have e12 : ρ (.tmp 12) = .pointer (some ⟨gc, 0, none⟩) := by rw [← hρ]; kernel_rfl
          clear hρ
          have hgc : w.heap[gc]? = some (.cells #[.int .i32 x.f0, .int .u32 x.f1] 30 (0, 0)) := (hC.2.2.2 gc (H2.out.lt (i := 0) rfl) GX.out.1 GX.out.2.1 GX.out.2.2).trans (H2.out.get (i := 0) rfl)
          have c0 := blk_cell hgc 0
          have c1 := blk_cell hgc 1
          refine runs_val (v := .agg #[.int .i32 x.f0, .int .u32 x.f1]) (w' := w) ?_ ⟨hC, StepW.refl _ _ _, rfl, trivial⟩
          clear hV hU hUk hC hgc
          go_simp
        case q8_1o9 =>
          intro vs w hC hV hU hUk
          rw [if_pos (by kernel_rfl)]
          generalize hρ : rho _ _ _ vs = ρ
          have d45 : (vs 8) = .agg #[.int .i32 x.f0, .int .u32 x.f1] := (hV 8 (by kernel_rfl)).1
          have e45 : ρ (.tmp 45) = vs 8 := by rw [← hρ]; kernel_rfl
          rw [d45] at e45; clear d45
          clear hρ
          refine runs_val (v := .slice (some ⟨w.heap.size, 0, none⟩) 1 1) (w' := w.alloc (.cells #[.int .i32 x.f0, .int .u32 x.f1] 30)) ?_ ⟨hC.below (below_alloc (Below.refl _ _) _), StepW.miss (below_alloc (Below.refl _ _) _) rfl, ⟨w.heap.size, rfl, hC.1.size, blk_new _ _⟩, trivial⟩
          clear hV hU hUk hC
          go_simp
        case q8_1o10 =>
          intro vs w hC hV hU hUk
          rw [if_pos (by kernel_rfl)]
          generalize hρ : rho _ _ _ vs = ρ
          have d44 : (vs 7) = vC := (hV 7 (by kernel_rfl)).1
          have e44 : ρ (.tmp 44) = vs 7 := by rw [← hρ]; kernel_rfl
          rw [d44] at e44; clear d44
          have d46 : (fun (w : World) (v : Value) => ∃ b, v = .slice (some ⟨b, 0, none⟩) 1 1 ∧ z2.heap.size ≤ b ∧ w.heap[b]? = some (.cells #[.int .i32 x.f0, .int .u32 x.f1] 30 (0, 0))) w (vs 9) := (hV 9 (by kernel_rfl)).1
          have e46 : ρ (.tmp 46) = vs 9 := by rw [← hρ]; kernel_rfl
          obtain ⟨b, hve46, hb1, hb2⟩ := d46
          clear hρ
          rw [hve46] at e46
          refine runs_append k30 (Rr := fun y cs => cs = [.int .i32 y.f0, .int .u32 y.f1]) B 44 46 22 30 (.agg #[.int .i32 0, .int .u32 0]) 8 rfl Try.underlying22 cell_full rfl (by decide) (by decide) vC (clL f2 t i) [x] (some ⟨b, 0, none⟩) 1 1 (fun _ => True) (fun _ => False) e44 e46 hU (C_one_cell2 hb2) (fun y cs h => by rw [h]; exact k30_mkM _ _ _ y) (fun _ h => h.elim) (fun _ _ => trivial) hC.le (by have := HPN.out; omega) ?_
          intro v1 w1 h1 hg1 hat
          exact ⟨hC.row hg1 (.inr rfl) (fun k hk => Kd.R_base hU k hk) AP.out.gc, StepW.hit hg1 trivial rfl, ⟨h1, hat.imp_right (fun ⟨b, h1, h2⟩ => ⟨b, h1, Nat.le_trans hC.1.size h2⟩)⟩, trivial⟩
        case q8_1o11 =>
          intro vs w hC hV hU hUk
          rw [if_pos (by kernel_rfl)]
          generalize hρ : rho _ _ _ vs = ρ
          have e10 : ρ (.tmp 10) = .pointer (some ⟨gd, 0, none⟩) := by rw [← hρ]; kernel_rfl
          clear hρ
          refine runs_val (v := .pointer (some ⟨gd, 2, none⟩)) (w' := w) ?_ ⟨hC, StepW.refl _ _ _, rfl, trivial⟩
          clear hV hU hUk
          go_simp <;> (first | exact IntWalk.u64_in _ (by omega) | exact IntWalk.u32_in _ (by omega) | exact IntWalk.u16_in _ (by omega) | exact IntWalk.u8_in _ (by omega) | exact IntWalk.i64_in _ (by omega) | skip)
        case q8_1o12 =>
          intro vs w hC hV hU hUk
          rw [if_pos (by kernel_rfl)]
          generalize hρ : rho _ _ _ vs = ρ
          have d48 : (vs 11) = .pointer (some ⟨gd, 2, none⟩) := (hV 11 (by kernel_rfl)).1
          have e48 : ρ (.tmp 48) = vs 11 := by rw [← hρ]; kernel_rfl
          rw [d48] at e48; clear d48
          have d42 : (fun (w : World) (v : Value) => (Kd.int .u8).R 5 w B (fun _ => True) v (plL t i ++ [(i : Int)]) ∧ (v.ownBlock = vP.ownBlock ∨ ∃ b, v.ownBlock = some b ∧ z2.heap.size ≤ b)) w (vs 5) := (hV 5 (by kernel_rfl)).1
          have e42 : ρ (.tmp 42) = vs 5 := by rw [← hρ]; kernel_rfl
          clear hρ
          obtain ⟨c2, c3, hu⟩ := hC.2.1
          obtain ⟨A5, c5, hs5⟩ := Kd.R_slice d42.1
          have c0 := blk_cell hu 2
          have f0 := blk_frozen hu 2
          refine runs_skip (w' := w.setCell ⟨gd, 2, none⟩ (vs 5)) ?_ ⟨hC.set2 _ BG.out, StepW.hit (grown_setCell _ _ _ _) ⟨_, rfl⟩ rfl, trivial, ⟨c3, blk_set hu 2 _⟩⟩
          rw [hs5] at e42
          rw [hs5]
          clear hV hU hUk hC hu d42 hs5
          go_simp
        case q8_1o13 =>
          intro vs w hC hV hU hUk
          rw [if_pos (by kernel_rfl)]
          generalize hρ : rho _ _ _ vs = ρ
          have e10 : ρ (.tmp 10) = .pointer (some ⟨gd, 0, none⟩) := by rw [← hρ]; kernel_rfl
          clear hρ
          refine runs_val (v := .pointer (some ⟨gd, 3, none⟩)) (w' := w) ?_ ⟨hC, StepW.refl _ _ _, rfl, trivial⟩
          clear hV hU hUk
          go_simp <;> (first | exact IntWalk.u64_in _ (by omega) | exact IntWalk.u32_in _ (by omega) | exact IntWalk.u16_in _ (by omega) | exact IntWalk.u8_in _ (by omega) | exact IntWalk.i64_in _ (by omega) | skip)
        case q8_1o14 =>
          intro vs w hC hV hU hUk
          rw [if_pos (by kernel_rfl)]
          generalize hρ : rho _ _ _ vs = ρ
          have d49 : (vs 13) = .pointer (some ⟨gd, 3, none⟩) := (hV 13 (by kernel_rfl)).1
          have e49 : ρ (.tmp 49) = vs 13 := by rw [← hρ]; kernel_rfl
          rw [d49] at e49; clear d49
          have d47 : (fun (w : World) (v : Value) => k30.R 30 w B (fun _ => True) v (clL f2 t i ++ [x]) ∧ (v.ownBlock = vC.ownBlock ∨ ∃ b, v.ownBlock = some b ∧ z2.heap.size ≤ b)) w (vs 10) := (hV 10 (by kernel_rfl)).1
          have e47 : ρ (.tmp 47) = vs 10 := by rw [← hρ]; kernel_rfl
          clear hρ
          obtain ⟨c2, c3, hu⟩ := hC.2.1
          obtain ⟨A5, c5, hs5⟩ := Kd.R_slice d47.1
          have c0 := blk_cell hu 3
          have f0 := blk_frozen hu 3
          refine runs_skip (w' := w.setCell ⟨gd, 3, none⟩ (vs 10)) ?_ ⟨hC.set3 _ BG.out, StepW.hit (grown_setCell _ _ _ _) ⟨_, rfl⟩ rfl, trivial, ⟨c2, blk_set hu 3 _⟩⟩
          rw [hs5] at e47
          rw [hs5]
          clear hV hU hUk hC hu d47 hs5
          go_simp
        case q8_1e =>
          intro vs z3 hC hV hX
          have d37 : (vs 0) = .pointer (some ⟨gd, 2, none⟩) := hV 0 (Nat.le_of_ble_eq_true rfl)
          have d38 : (vs 1) = vP := hV 1 (Nat.le_of_ble_eq_true rfl)
          have d39 : (vs 2) = .int .i64 i := hV 2 (Nat.le_of_ble_eq_true rfl)
          have d40 : (vs 3) = .int .u8 i := hV 3 (Nat.le_of_ble_eq_true rfl)
          have d41 : (fun (w : World) (v : Value) => ∃ b, v = .slice (some ⟨b, 0, none⟩) 1 1 ∧ z2.heap.size ≤ b ∧ w.heap[b]? = some (.cells #[.int .u8 i] 5 (0, 0))) z3 (vs 4) := hV 4 (Nat.le_of_ble_eq_true rfl)
          have d42 : (fun (w : World) (v : Value) => (Kd.int .u8).R 5 w B (fun _ => True) v (plL t i ++ [(i : Int)]) ∧ (v.ownBlock = vP.ownBlock ∨ ∃ b, v.ownBlock = some b ∧ z2.heap.size ≤ b)) z3 (vs 5) := hV 5 (Nat.le_of_ble_eq_true rfl)
          have d43 : (vs 6) = .pointer (some ⟨gd, 3, none⟩) := hV 6 (Nat.le_of_ble_eq_true rfl)
          have d44 : (vs 7) = vC := hV 7 (Nat.le_of_ble_eq_true rfl)
          have d45 : (vs 8) = .agg #[.int .i32 x.f0, .int .u32 x.f1] := hV 8 (Nat.le_of_ble_eq_true rfl)
          have d46 : (fun (w : World) (v : Value) => ∃ b, v = .slice (some ⟨b, 0, none⟩) 1 1 ∧ z2.heap.size ≤ b ∧ w.heap[b]? = some (.cells #[.int .i32 x.f0, .int .u32 x.f1] 30 (0, 0))) z3 (vs 9) := hV 9 (Nat.le_of_ble_eq_true rfl)
          have d47 : (fun (w : World) (v : Value) => k30.R 30 w B (fun _ => True) v (clL f2 t i ++ [x]) ∧ (v.ownBlock = vC.ownBlock ∨ ∃ b, v.ownBlock = some b ∧ z2.heap.size ≤ b)) z3 (vs 10) := hV 10 (Nat.le_of_ble_eq_true rfl)
          have d48 : (vs 11) = .pointer (some ⟨gd, 2, none⟩) := hV 11 (Nat.le_of_ble_eq_true rfl)
          have x12 : (fun (w : World) (v : Value) => ∃ c3, w.heap[gd]? = some (.cells #[.int .u32 tk, .int .u32 hs, v, c3] 41 (0, 0))) z3 (vs 5) := hX 12 (Nat.le_of_ble_eq_true rfl)
          have d49 : (vs 13) = .pointer (some ⟨gd, 3, none⟩) := hV 13 (Nat.le_of_ble_eq_true rfl)
          have x14 : (fun (w : World) (v : Value) => ∃ c2, w.heap[gd]? = some (.cells #[.int .u32 tk, .int .u32 hs, c2, v] 41 (0, 0))) z3 (vs 10) := hX 14 (Nat.le_of_ble_eq_true rfl)
          clear hV hX
          simp only [putAll]
          rw [d37, d38, d39, d40, d43, d44, d45, d48, d49]
          clear d37 d38 d39 d40 d43 d44 d45 d48 d49
          generalize vs 4 = v41 at *
          generalize vs 5 = v42 at *
          generalize vs 9 = v46 at *
          generalize vs 10 = v47 at *
          generalize vs 12 = vN12
          generalize vs 14 = vN14
          clear vs
          simp only [Act.put, List.setIfInBounds_toArray, List.set_cons_zero, List.set_cons_succ]
          obtain ⟨c3, h12⟩ := x12
          obtain ⟨c2, h14⟩ := x14
          obtain ⟨rfl, rfl⟩ : c3 = v47 ∧ c2 = v42 := by
            have := h12.symm.trans h14
            simp at this
            exact ⟨this.2, this.1.symm⟩
          have H3 : Aside0 (Hp B w z3 [(gd, .cells #[.int .u32 tk, .int .u32 hs, c2, c3] 41 (0, 0)), (gv, .cells (boardC f2 n) 34 (0, 0)), (B + 1, .cells #[.int .u32 0, .int .u32 0, .slice none 0 0, .slice none 0 0] 41 (0, 0)), (B, .cells (boardC f n) 34 (0, 0))] []) := ⟨H2.out.rest.rows hC.1 h12 hC.2.2.2 (fun p hp => by
            simp only [List.mem_cons, List.not_mem_nil, or_false] at hp
            rcases hp with rfl | rfl | rfl
            · exact ⟨Kd.R_ne RP.out (H2.out.get (i := 2) rfl) (by decide), Kd.R_ne RC.out (H2.out.get (i := 2) rfl) (by decide)⟩
            · exact ⟨Kd.R_ne RP.out (H2.out.get (i := 3) rfl) (by decide), Kd.R_ne RC.out (H2.out.get (i := 3) rfl) (by decide)⟩
            · exact ⟨Kd.R_ne RP.out (H2.out.get (i := 4) rfl) (by decide), Kd.R_ne RC.out (H2.out.get (i := 4) rfl) (by decide)⟩)⟩
          have H4 := Aside0.mk (And.intro d42.1 d47.1)
          clear h12 h14 d41 d42 d46 d47 hC H2 RP RC GX AP IX GN BG HPN
          go_wp2_with fail
          go_roundw
          case rel => exact ⟨i + 1, by omega, by go_num, c2, c3, ⟨by rw [HPL.out, HCL.out]; exact ⟨H3.out, H4.out.1, H4.out.2⟩⟩⟩
          case measure => simp [intOf]; omega
    · obtain rfl : i = n := by omega
      have d1 : decide (i < i) = false := decide_eq_false (by omega)
      clear hlt hi
      go_wp2_with (first | (refine wpList_load_row_g 41 (.tmp 10) rfl gd rfl rfl 41 #[.int .u32 tk, .int .u32 hs, vP, vC] (0, 0) _ (H.out.1.get (i := 0) rfl) Try.underlying41 rfl (delta_info _ _ _ _) ?_) | (refine wpList_store_row rfl 41 (.tmp 8) (.tmp 51) rfl (B + 1) #[.int .u32 tk, .int .u32 hs, vP, vC] rfl rfl 41 _ (H.out.1.get (i := 2) rfl) (delta_info _ _ _ _) rfl (delta_one _ _ H.out.2.1 H.out.2.2) ?_))
      have H9 := Aside0.mk (H.out.1.setRow (i := 2) rfl #[.int .u32 tk, .int .u32 hs, vP, vC])
      refine bodyPost_ret (results_cell_row rfl _ _ (B + 1) _ #[.int .u32 tk, .int .u32 hs, vP, vC] (0, 0) _ rfl (H9.out.get (i := 2) rfl) Try.underlying41 rfl (delta_info _ _ _ _)) rfl ?_
      rw [HBE.out]
      refine ⟨vP, vC, by rw [HF2.out, HHS.out], ?_, ?_, H9.out.bel⟩
      · exact Kd.R_grown2 H.out.2.1 rfl (grown_setRow _ _ _) (fun k hk => by cases hk; exact Kd.R_ne H.out.2.1 (H.out.1.get (i := 2) rfl) (by decide))
      · rw [HF2.out]
        exact Kd.R_grown2 H.out.2.2 rfl (grown_setRow _ _ _) (fun k hk => by cases hk; exact Kd.R_ne H.out.2.2 (H.out.1.get (i := 2) rfl) (by decide))
end Go.Proofs.Ytkhlalpkkmjfnaa

namespace Go.Proofs.Ytkhlalpkkmjfnaa
open Go.RowKit Go.Proofs.YtkhlalpkkmjfnaaW.PrintWords Go.Proofs.YtkhlalpkkmjfnaaW.PrintLast Go.Proofs.YtkhlalpkkmjfnaaW.PrintMore
set_option linter.unusedVariables false

/-- The state on the way. -/
structure Inv5 (ops : Array Oper) (a0 : Act) (I : (Nat → Bool) → (Nat → Value) → World → Prop) (L : Nat → Bool) (vs : Nat → Value) (a : Act) (w : World) : Prop where
  defers : a.defers = a0.defers
  size : a.tmps.size = a0.tmps.size
  slot : ∀ s, a.tmps.getD s undef = look ops a0 L vs s
  closed : ∀ i o, ops[i]? = some o → L i = true → ∀ j, depOn o j = true → L j = true
  inv : I L vs w
section
variable {P : Program} {ops : Array Oper} {Q : Exit → Act → World → Prop} {a0 : Act} {I : (Nat → Bool) → (Nat → Value) → World → Prop} {yv : Nat → Option Bool}
variable (hok : regionOk ops a0.tmps.size = true)
  (hyv : ∀ (i : Nat) (o : Oper) (j : Nat) (b : Bool), ops[i]? = some o → o.guard = some (j, b) → ∀ L vs w, I L vs w → L j = true → boolOf (vs j) = yv j)
  (hop : ∀ i o, ops[i]? = some o → ∀ (L : Nat → Bool) (vs : Nat → Value) w, L i = false → (∀ k o', ops[k]? = some o' → L k = true → ∀ j, depOn o' j = true → L j = true) → (∀ j, depOn o j = true → L j = true) → I L vs w →
    if wants yv o = true then runs P o (rho ops a0 (depOn o) vs) w (fun v w' => I (fun k => if k = i then true else L k) (fun k => if k = i then v else vs k) w') else I (fun k => if k = i then true else L k) (fun k => if k = i then undef else vs k) w)
  (hend : ∀ (L : Nat → Bool) (vs : Nat → Value) w a, (∀ i, i < ops.size → L i = true) → I L vs w → a.defers = a0.defers → a.tmps.size = a0.tmps.size → (∀ s, a.tmps.getD s undef = look ops a0 (fun _ => true) vs s) → Q .normal a w)
include hend in
theorem end_ok5 {listed : Array Bool} {vs : Nat → Value} {a : Act} {w : World} (hall : ∀ i, i < ops.size → listed.getD i false = true) (J : Inv5 ops a0 I (fun i => listed.getD i false) vs a w) : Q .normal a w :=
  hend _ vs w a hall J.inv J.defers J.size (fun s => by rw [J.slot s]; exact look_all hall s)
include hok hyv hop hend in
theorem any_ok5 : ∀ (fuel : Nat) (listed : Array Bool) (vs : Nat → Value) (a : Act) (w : World), listed.size = ops.size → ((List.range ops.size).filter (fun i => !listed.getD i false)).length ≤ fuel →
    Inv5 ops a0 I (fun i => listed.getD i false) vs a w → wpAny P .any ops Q fuel listed a w
  | 0, listed, vs, a, w, hs, hc, J => by
    have hall : ∀ i, i < ops.size → listed.getD i false = true := by
      intro i hi
      cases hb : listed.getD i false with
      | true => rfl
      | false =>
        exfalso
        have hm : i ∈ (List.range ops.size).filter (fun i => !listed.getD i false) := List.mem_filter.2 ⟨List.mem_range.2 hi, by simp [hb]⟩
        have := List.length_pos_of_mem hm
        omega
    refine ⟨?_, end_ok5 hend hall J⟩
    rw [List.eq_nil_iff_forall_not_mem]
    intro j hj
    obtain ⟨h1, o, ho, _⟩ := mem_ready.1 hj
    have hjn : j < ops.size := (Array.getElem?_eq_some_iff.1 ho).1
    rw [getD_of_lt (by omega) true false, hall j hjn] at h1
    cases h1
  | fuel + 1, listed, vs, a, w, hs, hc, J => by
    refine ⟨fun hr => end_ok5 hend (all_listed hok hs hr) J, fun i hi => ?_⟩
    obtain ⟨h1, o, ho, hdeps⟩ := mem_ready.1 hi
    have hin : i < ops.size := (Array.getElem?_eq_some_iff.1 ho).1
    have hun : listed.getD i false = false := by rw [getD_of_lt (by omega) false true]; exact h1
    have F := fact_of hok ho
    have hdep : ∀ j, depOn o j = true → listed.getD j false = true := by
      intro j hj
      unfold depOn at hj
      rw [Array.any_eq_true'] at hj
      obtain ⟨e, he, hb⟩ := hj
      simp only [Bool.and_eq_true, beq_iff_eq] at hb
      obtain ⟨hb, rfl⟩ := hb
      exact hdeps e he hb
    -- what it reads
    have hlk : ∀ s, .tmp s ∈ o.op.operands → look ops a0 (fun i => listed.getD i false) vs s = look ops a0 (depOn o) vs s := by
      intro s hso
      unfold look
      rw [find_congr (q := fun k => depOn o k && dstOf ops k == some s)]
      intro k hk
      show (listed.getD k false && dstOf ops k == some s) = (depOn o k && dstOf ops k == some s)
      by_cases hd : dstOf ops k = some s
      · have e1 : listed.getD k false = depOn o k := by
          by_cases hki : k = i
          · subst hki
            rw [hun]
            cases hb : depOn o k with
            | false => rfl
            | true => exact absurd (F.back k hb) (by omega)
          · cases hb : depOn o k with
            | true => exact hdep k hb
            | false =>
              rcases F.reads s hso k hk hki hd with h | ⟨o', ho', h⟩
              · rw [hb] at h; cases h
              · cases hl : listed.getD k false with
                | false => rfl
                | true =>
                  have := J.closed k o' ho' hl i h
                  rw [hun] at this; cases this
        rw [e1]
      · have : (dstOf ops k == some s) = false := by simpa using hd
        rw [this, Bool.and_false, Bool.and_false]
    have hev : execOp a.eval o = execOp (rho ops a0 (depOn o) vs) o := by
      refine execOp_congr o F.sel fun x hx => ?_
      cases x with
      | tmp s =>
        show a.tmps.getD s undef = look ops a0 (depOn o) vs s
        rw [J.slot s]; exact hlk s hx
      | const v => rfl
      | global g => rfl
      | func f => rfl
    -- is it wanted
    have hw : Region.wanted o (yielded ops a.tmps) = wants yv o := by
      unfold Region.wanted wants
      cases hg : o.guard with
      | none => rfl
      | some jb =>
        obtain ⟨j, b⟩ := jb
        obtain ⟨hdj, hds⟩ := F.guard j b hg
        have hjn : j < ops.size := by have := F.back j hdj; omega
        obtain ⟨d, hd⟩ := Option.isSome_iff_exists.1 hds
        have Fj := fact_of hok (Array.getElem?_eq_getElem hjn)
        have hdj' : ops[j].dst = some d := by
          have := hd
          unfold dstOf at this
          rw [Array.getElem?_eq_getElem hjn] at this
          exact this
        have hsl : a.tmps.getD d undef = vs j := by
          rw [J.slot d]
          unfold look
          rw [find_unique (i := j) hjn (by simp only [hdep j hdj, hd, beq_self_eq_true, Bool.and_self]) (fun k hk hp => by
            by_cases e : k = j
            · exact e
            · simp only [Bool.and_eq_true, beq_iff_eq] at hp
              exact absurd hp.2 ((Fj.dst d hdj').2 k hk e))]
        have hdl : d < a.tmps.size := by rw [J.size]; exact (Fj.dst d hdj').1
        have hy : yielded ops a.tmps j = boolOf (vs j) := by
          unfold yielded
          have : (ops[j]?).bind (·.dst) = some d := hd
          rw [this]
          simp only [Option.bind_some]
          have e2 : a.tmps[d]? = some (vs j) := by
            rw [Array.getElem?_eq_getElem hdl]
            have : a.tmps.getD d undef = a.tmps[d] := by simp [Array.getD, hdl]
            rw [← this, hsl]
          rw [e2]
          cases vs j <;> rfl
        show (yielded ops a.tmps j == some b) = (yv j == some b)
        rw [hy, hyv i o j b ho hg _ vs w J.inv (hdep j hdj)]
    have hL : (fun k => (listed.setIfInBounds i true).getD k false) = (fun k => if k = i then true else listed.getD k false) := by
      funext k
      by_cases e : k = i
      · subst e; rw [if_pos rfl]; simp [Array.getD, hs, hin]
      · rw [if_neg e]; exact getD_set_ne false (Ne.symm e)
    have hI : ∀ v w', I (fun k => if k = i then true else listed.getD k false) (fun k => if k = i then v else vs k) w' → Inv5 ops a0 I (fun k => (listed.setIfInBounds i true).getD k false) (fun k => if k = i then v else vs k) (a.put o.dst v) w' := by
      intro v w' hIv
      have hgi : (listed.setIfInBounds i true).getD i false = true := by simp [Array.getD, hs, hin]
      have hgo : ∀ k, k ≠ i → (listed.setIfInBounds i true).getD k false = listed.getD k false := fun k hk => getD_set_ne false (Ne.symm hk)
      refine ⟨by rw [← J.defers]; cases o.dst <;> rfl, by rw [← J.size]; cases o.dst <;> simp [Act.put], fun s => ?_, fun k o' hk hl j hj => ?_, by rw [hL]; exact hIv⟩
      · by_cases hd : o.dst = some s
        · have Fd := F.dst s hd
          have e1 : (a.put o.dst v).tmps.getD s undef = v := by
            rw [hd]; simp [Act.put, Array.getD, J.size, Fd.1]
          rw [e1]
          unfold look
          rw [find_unique (i := i) hin (by simp only [hgi, dstOf, ho, Option.bind_some, hd, beq_self_eq_true, Bool.and_self]) (fun k hk hp => by
            by_cases e : k = i
            · exact e
            · simp only [Bool.and_eq_true, beq_iff_eq] at hp
              exact absurd hp.2 (Fd.2 k hk e))]
          simp
        · have e1 : (a.put o.dst v).tmps.getD s undef = a.tmps.getD s undef := by
            cases hdo : o.dst with
            | none => rfl
            | some d =>
              have hne : d ≠ s := fun e => hd (by rw [hdo, e])
              have := Act.eval_put (a := a) (dst := some d) (v := v) (x := .tmp s) (fun d' hd' => by cases hd'; intro e; cases e; exact hne rfl)
              exact this
          rw [e1, J.slot s]
          unfold look
          rw [find_congr (p := fun k => (listed.setIfInBounds i true).getD k false && dstOf ops k == some s) (q := fun k => listed.getD k false && dstOf ops k == some s) (fun k hk => by
            by_cases e : k = i
            · subst e
              have : (dstOf ops k == some s) = false := by simp only [dstOf, ho, Option.bind_some, beq_eq_false_iff_ne]; exact hd
              rw [this, Bool.and_false, Bool.and_false]
            · rw [hgo k e])]
          cases hf : (List.range ops.size).find? (fun k => listed.getD k false && dstOf ops k == some s) with
          | none => rfl
          | some k =>
            have hp := List.find?_some hf
            simp only [Bool.and_eq_true] at hp
            have : k ≠ i := fun e => by rw [e, hun] at hp; exact absurd hp.1 (by simp)
            simp [this]
      · by_cases e : k = i
        · subst e
          have : o' = o := by rw [ho] at hk; exact (Option.some.inj hk).symm
          subst this
          have hlj := hdep j hj
          by_cases ej : j = k
          · rw [ej]; exact hgi
          · rw [hgo j ej]; exact hlj
        · have h2 := J.closed k o' hk (by rw [← hgo k e]; exact hl) j hj
          by_cases ej : j = i
          · rw [ej]; exact hgi
          · rw [hgo j ej]; exact h2
    have hc' : ((List.range ops.size).filter (fun k => !(listed.setIfInBounds i true).getD k false)).length ≤ fuel := by
      have := count_lt (l := List.range ops.size) (x := i) (p := fun k => !listed.getD k false) (q := fun k => !(listed.setIfInBounds i true).getD k false) (List.mem_range.2 hin) (by simp [hun]) (by simp [Array.getD, hs, hin]) (fun k hk => by
        by_cases e : k = i
        · subst e; simp [hun]
        · rw [getD_set_ne false (Ne.symm e)] at hk; exact hk)
      omega
    have hgo := hop i o ho _ vs w hun (fun k o' hk hl => J.closed k o' hk hl) hdep J.inv
    unfold wpOp
    simp only [ho]
    rw [hw]
    by_cases hwt : wants yv o = true
    · rw [if_pos hwt] at hgo ⊢
      refine .inl (runs_wp hev ?_)
      have mono : ∀ {R R' : Value → World → Prop}, (∀ v w', R v w' → R' v w') → runs P o (rho ops a0 (depOn o) vs) w R → runs P o (rho ops a0 (depOn o) vs) w R' := by
        intro R R' hR h
        unfold runs at *
        split at h <;> first | exact hR _ _ h | exact Calls.mono h (fun e w'' ⟨v, he, hk⟩ => ⟨v, he, hR _ _ hk⟩) | exact h.elim
      exact mono (fun v w' h1 => any_ok5 fuel _ _ _ _ (by simp [hs]) hc' (hI v w' h1)) hgo
    · rw [if_neg hwt] at hgo ⊢
      exact any_ok5 fuel _ _ _ _ (by simp [hs]) hc' (hI undef w hgo)

theorem region_inv {id : Nat} {w : World} (I : (Nat → Bool) → (Nat → Value) → World → Prop) (yv : Nat → Option Bool) (D : List (Nat × Option Tmp)) (hm : P.follows .mixedOrders = true)
    (hok : regionOk ops a0.tmps.size = true) (hD : (List.range ops.size).map (fun i => (i, dstOf ops i)) = D)
    (hyv : ∀ (i : Nat) (o : Oper) (j : Nat) (b : Bool), ops[i]? = some o → o.guard = some (j, b) → ∀ L vs w, I L vs w → L j = true → boolOf (vs j) = yv j)
    (h0 : I (fun _ => false) (fun _ => undef) w.drew)
    (hop : ∀ i o, ops[i]? = some o → ∀ (L : Nat → Bool) (vs : Nat → Value) w, L i = false → (∀ k o', ops[k]? = some o' → L k = true → ∀ j, depOn o' j = true → L j = true) → (∀ j, depOn o j = true → L j = true) → I L vs w →
      if wants yv o = true then runs P o (rho ops a0 (depOn o) vs) w (fun v w' => I (fun k => if k = i then true else L k) (fun k => if k = i then v else vs k) w') else I (fun k => if k = i then true else L k) (fun k => if k = i then undef else vs k) w)
    (hend : ∀ (L : Nat → Bool) (vs : Nat → Value) w, (∀ i, i < ops.size → L i = true) → I L vs w → Q .normal (putAll vs D a0) w) : (Code.region id ops true).wp P Q a0 w :=
  wp_region_any hm (any_ok5 hok hyv hop (fun L vs w a hall hI h1 h2 h3 => by rw [frame_is hok hD h1 h2 h3]; exact hend L vs w hall hI) ops.size (Array.replicate ops.size false) (fun _ => undef) a0 _ (by simp)
    (Nat.le_trans (List.length_filter_le _ _) (by simp)) ⟨rfl, rfl, fun s => by
      unfold look
      have : (List.range ops.size).find? (fun i => (Array.replicate ops.size false).getD i false && dstOf ops i == some s) = none := by
        rw [List.find?_eq_none]
        intro k hk hc
        have hk := List.mem_range.1 hk
        simp [Array.getD, hk] at hc
      rw [this], fun i o ho hl => by
        have hi : i < ops.size := (Array.getElem?_eq_some_iff.1 ho).1
        simp [Array.getD, hi] at hl, by
      have : (fun i => (Array.replicate ops.size false).getD i false) = (fun _ : Nat => false) := by
        funext i
        by_cases hi : i < ops.size <;> simp [Array.getD, hi]
      rw [this]; exact h0⟩)
end

/-- A chain: each operation of it leans on the one ahead of it. -/
def chainOk (ops : Array Oper) (ch : List Nat) : Bool :=
  (List.range ch.length).all fun t => match ch[t]? with
    | none => false
    | some k => decide (k < ops.size) && (match ch[t + 1]? with | none => true | some k' => match ops[k']? with | some o' => depOn o' k | none => false) && (List.range ch.length).all (fun s => s == t || ch[s]? != some k)
abbrev Vat (Vl : List (World → Value → Prop)) (i : Nat) : World → Value → Prop := Vl.getD i (fun _ _ => True)
def StabS (ch : List Nat) (T : Nat → World → World → Prop) (i : Nat) (p : World → Value → Prop) : Prop :=
  (∀ w w' v, Below w.heap.size w w' → p w v → p w' v) ∧ ∀ k, k ∈ ch → k ≠ i → ∀ w w' v, T k w w' → p w v → p w' v
def StabSAll (ch : List Nat) (T : Nat → World → World → Prop) : Nat → List (World → Value → Prop) → Prop
  | _, [] => True
  | i, p :: l => StabS ch T i p ∧ StabSAll ch T (i + 1) l
theorem StabS.const (ch : List Nat) (T : Nat → World → World → Prop) (i : Nat) (p : Value → Prop) : StabS ch T i (fun _ v => p v) := ⟨fun _ _ _ _ h => h, fun _ _ _ _ _ _ _ h => h⟩
theorem StabSAll.at_ {ch : List Nat} {T : Nat → World → World → Prop} : ∀ (l : List (World → Value → Prop)) (k i : Nat), StabSAll ch T k l → StabS ch T (k + i) (Vat l i)
  | [], k, i, _ => by
    have : Vat [] i = fun _ _ => True := by simp [Vat]
    rw [this]; exact StabS.const _ _ _ _
  | x :: l, k, 0, h => h.1
  | x :: l, k, i + 1, h => by
    have := StabSAll.at_ l (k + 1) i h.2
    rw [show k + 1 + i = k + (i + 1) by omega] at this
    unfold Vat at this ⊢
    rw [List.getD_cons_succ]; exact this
section
variable (P : Program) (ops : Array Oper) (a0 : Act) (yv : Nat → Option Bool) (C : World → Prop) (ch : List Nat) (S : Nat → List Value → World → Prop) (T : Nat → World → World → Prop) (Vl : List (World → Value → Prop))
/-- What is owed for one operation: of the chain (number t of it), or not. -/
def HopS (i : Nat) (o : Oper) : Prop :=
  match ch.idxOf? i with
  | some t => ∀ (vs : Nat → Value) w, C w → S t ((ch.take t).map vs) w → (∀ j, depOn o j = true → Vat Vl j w (vs j)) →
      if wants yv o = true then runs P o (rho ops a0 (depOn o) vs) w (fun v w' => C w' ∧ T i w w' ∧ Vat Vl i w' v ∧ S (t + 1) ((ch.take t).map vs ++ [v]) w') else Vat Vl i w undef ∧ S (t + 1) ((ch.take t).map vs ++ [undef]) w
  | none => ∀ (vs : Nat → Value) w t, C w → (∀ (s k : Nat) (o' : Oper), s < t → ch[s]? = some k → ops[k]? = some o' → depOn o' i = false) → (∀ (s k : Nat), ch[s]? = some k → depOn o k = true → s < t) → S t ((ch.take t).map vs) w → (∀ j, depOn o j = true → Vat Vl j w (vs j)) →
      if wants yv o = true then runs P o (rho ops a0 (depOn o) vs) w (fun v w' => Below w.heap.size w w' ∧ Vat Vl i w' v) else Vat Vl i w undef
def HopSAll : Nat → List Oper → Prop
  | _, [] => True
  | i, o :: l => HopS P ops a0 yv C ch S T Vl i o ∧ HopSAll (i + 1) l
end
theorem HopSAll.at_ {P : Program} {ops : Array Oper} {a0 : Act} {yv : Nat → Option Bool} {C : World → Prop} {ch : List Nat} {S : Nat → List Value → World → Prop} {T : Nat → World → World → Prop} {Vl : List (World → Value → Prop)} : ∀ (l : List Oper) (k i : Nat) (o : Oper), HopSAll P ops a0 yv C ch S T Vl k l → l[i]? = some o → HopS P ops a0 yv C ch S T Vl (k + i) o
  | [], k, i, o, _, h => by simp at h
  | x :: l, k, 0, o, h, ho => by
    obtain rfl : x = o := by simpa using ho
    exact h.1
  | x :: l, k, i + 1, o, h, ho => by
    have := HopSAll.at_ l (k + 1) i o h.2 (by simpa using ho)
    rw [show k + 1 + i = k + (i + 1) by omega] at this
    exact this
theorem chain_at {ops : Array Oper} {ch : List Nat} (h : chainOk ops ch = true) {t k : Nat} (hk : ch[t]? = some k) : k < ops.size ∧ (∀ k' o', ch[t + 1]? = some k' → ops[k']? = some o' → depOn o' k = true) ∧ ∀ s, ch[s]? = some k → s = t := by
  have ht : t < ch.length := (List.getElem?_eq_some_iff.1 hk).1
  have := range_all h ht
  rw [hk] at this
  simp only [Bool.and_eq_true, decide_eq_true_eq] at this
  obtain ⟨⟨h1, h2⟩, h3⟩ := this
  refine ⟨h1, fun k' o' hk' ho' => ?_, fun s hs => ?_⟩
  · rw [hk'] at h2
    simp only [ho'] at h2
    exact h2
  · have hsl : s < ch.length := (List.getElem?_eq_some_iff.1 hs).1
    have := range_all h3 hsl
    simp only [Bool.or_eq_true, beq_iff_eq, bne_iff_ne, ne_eq] at this
    rcases this with e | e
    · exact e
    · exact absurd hs e
theorem regionS {P : Program} {ops : Array Oper} {Q : Exit → Act → World → Prop} {a0 : Act} {id : Nat} {W : World} (Vl : List (World → Value → Prop)) (ch : List Nat) (S : Nat → List Value → World → Prop) (T : Nat → World → World → Prop) (C : World → Prop) (yv : Nat → Option Bool) (D : List (Nat × Option Tmp)) (G : List Nat)
    (hm : P.follows .mixedOrders = true) (hok : regionOk ops a0.tmps.size = true) (hD : (List.range ops.size).map (fun i => (i, dstOf ops i)) = D) (hG : (ops.all fun o => match o.guard with | none => true | some (j, _) => G.contains j) = true) (hch : chainOk ops ch = true)
    (h0 : C W.drew) (hS0 : S 0 [] W.drew) (hCb : ∀ w w', Below w.heap.size w w' → C w → C w') (hSb : ∀ t rs w w', Below w.heap.size w w' → S t rs w → S t rs w')
    (hyv : ∀ j ∈ G, ∀ w v, Vat Vl j w v → boolOf v = yv j)
    (hst : StabSAll ch T 0 Vl) (hop : HopSAll P ops a0 yv C ch S T Vl 0 ops.toList)
    (hend : ∀ (vs : Nat → Value) w, C w → S ch.length (ch.map vs) w → (∀ i, i < ops.size → Vat Vl i w (vs i)) → Q .normal (putAll vs D a0) w) : (Code.region id ops true).wp P Q a0 W := by
  have hs : ∀ i, StabS ch T i (Vat Vl i) := fun i => by have := StabSAll.at_ Vl 0 i hst; rwa [Nat.zero_add] at this
  let I : (Nat → Bool) → (Nat → Value) → World → Prop := fun L vs w => C w ∧ ∃ t, t ≤ ch.length ∧ (∀ (s k : Nat), ch[s]? = some k → L k = decide (s < t)) ∧ S t ((ch.take t).map vs) w ∧ ∀ i, L i = true → Vat Vl i w (vs i)
  refine region_inv I yv D hm hok hD ?_ ?_ ?_ ?_
  · intro i o j b ho hgd L vs w hI hL
    obtain ⟨_, t, _, _, _, hV⟩ := hI
    refine hyv j ?_ w _ (hV j hL)
    rw [Array.all_eq_true'] at hG
    have := hG o (Array.mem_of_getElem? ho)
    rw [hgd] at this
    exact List.contains_iff_mem.1 this
  · exact ⟨h0, 0, Nat.zero_le _, fun s k _ => by simp, hS0, fun i h => by cases h⟩
  · intro i o ho L vs w hLi hcl hdep hI
    obtain ⟨hC, t, ht, hL, hSt, hV⟩ := hI
    have H := HopSAll.at_ ops.toList 0 i o hop (by rw [Array.getElem?_toList]; exact ho)
    rw [Nat.zero_add] at H
    have hVd : ∀ j, depOn o j = true → Vat Vl j w (vs j) := fun j hj => hV j (hdep j hj)
    unfold HopS at H
    have hidx : ∀ t', ch.idxOf? i = some t' → ch[t']? = some i := by
      intro t' h'
      have := List.idxOf?_eq_some_iff.1 h'
      obtain ⟨h1, h2, _⟩ := this
      rw [List.getElem?_eq_getElem h1]; exact congrArg some (by simpa using h2)
    have hno : ch.idxOf? i = none → ∀ (s k : Nat), ch[s]? = some k → k ≠ i := by
      intro h' s k hk e
      subst e
      have := List.idxOf?_eq_none_iff.1 h'
      exact this (List.mem_of_getElem? hk)
    have hmap : ∀ (v : Value) (t' : Nat), (∀ (s k : Nat), s < t' → ch[s]? = some k → k ≠ i) → (ch.take t').map (fun k => if k = i then v else vs k) = (ch.take t').map vs := by
      intro v t' hne
      refine List.map_congr_left fun k hk => ?_
      obtain ⟨s, hs1⟩ := List.getElem?_of_mem hk
      rw [List.getElem?_take] at hs1
      split at hs1
      · rename_i hlt
        rw [if_neg (hne s k hlt hs1)]
      · cases hs1
    cases hix : ch.idxOf? i with
    | some t' =>
      rw [hix] at H
      have hci := hidx t' hix
      have F := chain_at hch hci
      have htt : t' = t := by
        have h1 := hL t' i hci
        rw [hLi] at h1
        have h2 : ¬ t' < t := by intro h; rw [decide_eq_true h] at h1; cases h1
        rcases Nat.lt_or_ge t t' with h | h
        · exfalso
          -- the one ahead of it in the chain has been carried out
          obtain ⟨p, hp⟩ : ∃ p, t' = p + 1 := ⟨t' - 1, by omega⟩
          subst hp
          have hpl : p < ch.length := by have := (List.getElem?_eq_some_iff.1 hci).1; omega
          have hpk := List.getElem?_eq_getElem hpl
          have hd := (chain_at hch hpk).2.1 i o hci ho
          have hl := hdep _ hd
          rw [hL p _ hpk] at hl
          have := of_decide_eq_true hl
          omega
        · omega
      subst htt
      have H1 := H vs w hC hSt hVd
      have hlast : (ch.take (t' + 1)) = ch.take t' ++ [i] := by
        rw [List.take_add_one, hci]; rfl
      have hne : ∀ (s k : Nat), s < t' → ch[s]? = some k → k ≠ i := by
        intro s k hs1 hk e
        subst e
        have := F.2.2 s hk
        omega
      have hLn : ∀ (s k : Nat), ch[s]? = some k → (if k = i then true else L k) = decide (s < t' + 1) := by
        intro s k hk
        by_cases e : k = i
        · subst e
          rw [if_pos rfl, F.2.2 s hk]; simp
        · rw [if_neg e, hL s k hk]
          have hst' : s ≠ t' := fun e2 => by subst e2; rw [hci] at hk; exact e (Option.some.inj hk).symm
          by_cases h : s < t'
          · rw [decide_eq_true h, decide_eq_true (by omega)]
          · rw [decide_eq_false h, decide_eq_false (by omega)]
      have hmapS : ∀ v : Value, (ch.take (t' + 1)).map (fun k => if k = i then v else vs k) = (ch.take t').map vs ++ [v] := by
        intro v
        rw [hlast, List.map_append, hmap v t' hne]
        simp
      have htl : t' + 1 ≤ ch.length := (List.getElem?_eq_some_iff.1 hci).1
      by_cases hw : wants yv o = true
      · rw [if_pos hw] at H1 ⊢
        unfold runs at H1 ⊢
        have fin : ∀ v w', (C w' ∧ T i w w' ∧ Vat Vl i w' v ∧ S (t' + 1) ((ch.take t').map vs ++ [v]) w') → I (fun k => if k = i then true else L k) (fun k => if k = i then v else vs k) w' := by
          rintro v w' ⟨k1, k2, k3, k4⟩
          refine ⟨k1, t' + 1, htl, hLn, by rw [hmapS]; exact k4, fun j hj => ?_⟩
          by_cases e : j = i
          · subst e; simpa using k3
          · simp only [e, if_false] at hj ⊢
            exact (hs j).2 i (List.mem_of_getElem? hci) (Ne.symm e) w w' _ k2 (hV j hj)
        split at H1 <;> first | exact fin _ _ H1 | exact Calls.mono H1 (fun e w'' ⟨v, he, hk⟩ => ⟨v, he, fin _ _ hk⟩) | exact H1.elim
      · rw [if_neg hw] at H1 ⊢
        refine ⟨hC, t' + 1, htl, hLn, by rw [hmapS]; exact H1.2, fun j hj => ?_⟩
        by_cases e : j = i
        · subst e; simpa using H1.1
        · simp only [e, if_false] at hj ⊢
          exact hV j hj
    | none =>
      rw [hix] at H
      have hn := hno hix
      have H1 := H vs w t hC (fun s k o' hs1 hk ho' => by
        cases hb : depOn o' i with
        | false => rfl
        | true =>
          have hlk : L k = true := by rw [hL s k hk]; exact decide_eq_true hs1
          have := hcl k o' ho' hlk i hb
          rw [hLi] at this; cases this) (fun s k hk hd => by
        have := hdep k hd
        rw [hL s k hk] at this
        exact of_decide_eq_true this) hSt hVd
      have hLn : ∀ (s k : Nat), ch[s]? = some k → (if k = i then true else L k) = decide (s < t) := fun s k hk => by rw [if_neg (hn s k hk)]; exact hL s k hk
      by_cases hw : wants yv o = true
      · rw [if_pos hw] at H1 ⊢
        unfold runs at H1 ⊢
        have fin : ∀ v w', (Below w.heap.size w w' ∧ Vat Vl i w' v) → I (fun k => if k = i then true else L k) (fun k => if k = i then v else vs k) w' := by
          rintro v w' ⟨k1, k2⟩
          refine ⟨hCb w w' k1 hC, t, ht, hLn, by rw [hmap v t (fun s k _ hk => hn s k hk)]; exact hSb _ _ _ _ k1 hSt, fun j hj => ?_⟩
          by_cases e : j = i
          · subst e; simpa using k2
          · simp only [e, if_false] at hj ⊢
            exact (hs j).1 w w' _ k1 (hV j hj)
        split at H1 <;> first | exact fin _ _ H1 | exact Calls.mono H1 (fun e w'' ⟨v, he, hk⟩ => ⟨v, he, fin _ _ hk⟩) | exact H1.elim
      · rw [if_neg hw] at H1 ⊢
        refine ⟨hC, t, ht, hLn, by rw [hmap undef t (fun s k _ hk => hn s k hk)]; exact hSt, fun j hj => ?_⟩
        by_cases e : j = i
        · subst e; simpa using H1
        · simp only [e, if_false] at hj ⊢
          exact hV j hj
  · intro L vs w hall hI
    obtain ⟨hC, t, ht, hL, hSt, hV⟩ := hI
    have htl : t = ch.length := by
      rcases Nat.lt_or_ge t ch.length with h | h
      · exfalso
        have hk := List.getElem?_eq_getElem h
        have h1 := hL t _ hk
        rw [hall _ (chain_at hch hk).1] at h1
        have := of_decide_eq_true h1.symm
        omega
      · omega
    subst htl
    rw [List.take_length] at hSt
    exact hend vs w hC hSt (fun i hi => hV i (hall i hi))
end Go.Proofs.Ytkhlalpkkmjfnaa

namespace Go.Proofs.Ytkhlalpkkmjfnaa
open Go.RowKit Go.Proofs.YtkhlalpkkmjfnaaW.PrintWords Go.Proofs.YtkhlalpkkmjfnaaW.PrintLast Go.Proofs.YtkhlalpkkmjfnaaW.PrintMore
set_option linter.unusedVariables false
set_option linter.unusedSimpArgs false

set_option maxHeartbeats 1000000 in
theorem pbyte_any (base g : Nat) (p : List Int) (v : Value) (x : Int) (w : World) (hk : Pn w base g p v) (hb : base ≤ g) (hl : p.length ≤ 10000000) :
    Calls Try.prog 39 #[.pointer (some ⟨g, 0, none⟩), .int .u8 x] w fun e w' => ∃ v', e = .returned (.pointer (some ⟨g, 0, none⟩)) ∧ PPut w w' base g v (p ++ [x]) v' := by
  have hal := below_alloc (Below.refl w.heap.size w) (.cells #[.int .u8 x] 5)
  have HK := Aside0.mk hk
  have HB := Aside0.mk hb
  have HAL := Aside0.mk hal
  have key := add_any base g p [x] v (some ⟨w.heap.size, 0, none⟩) 1 1 _ (hk.below hal) hb (row8_C (blk_new w _) rfl (by simp)) (by omega)
  have KEY := Aside0.mk key
  clear hk hb hal key hl
  go_enter Try.func39, Try.ntmps39
  go_wp2_with fail
  refine KEY.out.mono ?_
  rintro e w1 ⟨v', rfl, h⟩
  have H := Aside0.mk (PPut.after HB.out HK.out HAL.out h)
  clear h
  go_wp2_with fail
  go_ret
  exact ⟨_, rfl, H.out⟩

end Go.Proofs.Ytkhlalpkkmjfnaa

namespace Go.Proofs.Ytkhlalpkkmjfnaa
open Go.RowKit Go.Proofs.YtkhlalpkkmjfnaaW.PrintWords Go.Proofs.YtkhlalpkkmjfnaaW.PrintLast Go.Proofs.YtkhlalpkkmjfnaaW.PrintMore
set_option linter.unusedVariables false
set_option linter.unusedSimpArgs false

/-! ### Rows that are written -/
def Cur (cur : Array Value) (k : Nat) (f : Nat → S30) : Prop := ∀ j, j < k → cur[2 * j]? = some (.int .i32 (f j).f0) ∧ cur[2 * j + 1]? = some (.int .u32 (f j).f1)
theorem Cur.setlo {cur : Array Value} {k i : Nat} {f : Nat → S30} (h : Cur cur k f) (hi : i < k) (a : Int) : Cur (cur.setIfInBounds (2 * i) (.int .i32 a)) k (putF f i ⟨a, (f i).f1⟩) := by
  intro j hj
  obtain ⟨h0, h1⟩ := h j hj
  have hlt : 2 * i < cur.size := (Array.getElem?_eq_some_iff.1 (h i hi).1).1
  unfold putF
  by_cases e : j = i
  · subst e
    rw [if_pos rfl]
    exact ⟨by rw [Array.getElem?_setIfInBounds_self_of_lt hlt], by rw [Array.getElem?_setIfInBounds_ne (by omega)]; exact h1⟩
  · rw [if_neg e]
    exact ⟨by rw [Array.getElem?_setIfInBounds_ne (by omega)]; exact h0, by rw [Array.getElem?_setIfInBounds_ne (by omega)]; exact h1⟩
end Go.Proofs.Ytkhlalpkkmjfnaa

namespace Go.Proofs.Ytkhlalpkkmjfnaa
open Go.RowKit Go.Proofs.YtkhlalpkkmjfnaaW.PrintWords Go.Proofs.YtkhlalpkkmjfnaaW.PrintLast Go.Proofs.YtkhlalpkkmjfnaaW.PrintMore
set_option linter.unusedVariables false
set_option linter.unusedSimpArgs false

/-- A block that isn't the pen's. -/
theorem PPut.blk {w w' : World} {base g gc : Nat} {v v' : Value} {p' : List Int} {o : Obj} (h : PPut w w' base g v p' v') (hb : w.heap[gc]? = some o) (hne : gc ≠ g) (hv : v.ownBlock ≠ some gc) : w'.heap[gc]? = some o ∧ v'.ownBlock ≠ some gc := by
  refine ⟨h.2.1.blk hb hne (fun e => hv e.symm), fun e => ?_⟩
  rcases h.2.2.1 with h1 | h1 | ⟨b, h1, h2⟩
  · rw [h1] at e; cases e
  · exact hv (h1 ▸ e)
  · rw [h1] at e
    have := blk_lt hb
    injection e; omega

set_option maxRecDepth 100000 in
set_option maxHeartbeats 8000000 in
theorem dbytes_no (tk hs : Int) (A A2 : Option Addr) (n c m c2 : Nat) (P : List Int) (C : List S30) (w : World) (hp : (Kd.int .u8).C w A n P) (hc : n ≤ c) (hC : k30.C w A2 m C) (hc2 : m ≤ c2) (hP : Bytes P) (hl : n < 4611686018427387904) (hr : rightB P m = false) :
    Calls Try.prog 14 #[.agg #[.int .u32 tk, .int .u32 hs, .slice A n c, .slice A2 m c2]] w fun e w' => e = .returned (.slice none 0 0) ∧ Below w.heap.size w w' := by
  obtain rfl := hp.1
  obtain rfl := hC.1
  have H0 := Aside0.mk ((Hp.start w).alloc (.cells #[.int .u32 tk, .int .u32 hs, .slice A P.length c, .slice A2 C.length c2] 41))
  have hb0 := below_alloc (Below.refl w.heap.size w) (.cells #[.int .u32 tk, .int .u32 hs, .slice A P.length c, .slice A2 C.length c2] 41)
  have KEY := Aside0.mk (right_any tk hs A A2 c c2 P C _ (Kd.C_below hp hb0) hc (Kd.C_below hC hb0) hc2 hP hl)
  rw [hr] at KEY
  generalize P.length = n at *
  generalize C.length = m at *
  clear hp hC hb0 hP hl hr hc hc2
  go_enter Try.func14, Try.ntmps14
  go_wp2_with (first | (refine wpList_load_row_g 41 (.tmp 1) rfl (w.heap.size) rfl rfl 41 _ (0, 0) _ (H0.out.get (i := 0) rfl) Try.underlying41 rfl (delta_info _ _ _ _) ?_))
  refine KEY.out.mono ?_
  rintro e w1 ⟨rfl, hb1⟩
  have H1 := Aside0.mk (H0.out.call hb1)
  clear hb1 KEY H0
  go_wp2_with fail
  go_ret
  exact ⟨rfl, H1.out.bel⟩

set_option maxRecDepth 100000 in
set_option maxHeartbeats 8000000 in
theorem dbytes_yes (tk hs : Nat) (A A2 : Option Addr) (n c m c2 : Nat) (P : List Int) (C : List S30) (w : World) (hp : (Kd.int .u8).C w A n P) (hc : n ≤ c) (hC : k30.C w A2 m C) (hc2 : m ≤ c2) (hr : rightB P m = true) (htk : tk < 4294967296) (hhs : hs < 4294967296) (hU : ∀ x ∈ C, U32 x.f1) :
    Calls Try.prog 14 #[.agg #[.int .u32 tk, .int .u32 hs, .slice A n c, .slice A2 m c2]] w fun e w' => ∃ v, e = .returned v ∧ (Kd.int .u8).R 5 w' w.heap.size (fun _ => True) v (dBytes tk hs P C) ∧ Below w.heap.size w w' := by
  obtain ⟨hr1, hr2⟩ : risB (-1) P = true ∧ P.length = m := by
    unfold rightB at hr
    simp only [Bool.and_eq_true, beq_iff_eq] at hr
    exact hr
  obtain ⟨q1, q2, q3⟩ := risB_le (by omega) (by omega) hr1
  obtain rfl := hp.1
  have hCl := hC.1
  have hn48 : P.length ≤ 48 := by omega
  have HPC : Aside0 (P.length = m ∧ C.length = m ∧ m ≤ 48) := ⟨hr2, hCl, by omega⟩
  have hb0 := below_alloc (Below.refl w.heap.size w) (.cells #[.int .u32 tk, .int .u32 hs, .slice A P.length c, .slice A2 m c2] 41)
  have KEY := Aside0.mk (by have := right_any tk hs A A2 c c2 P C _ (Kd.C_below hp hb0) hc (by rw [hCl]; exact Kd.C_below hC hb0) (by rw [hCl]; exact hc2) q2 (by omega); rw [hCl, hr] at this; exact this)
  have HTK := Aside0.mk htk
  have HHS := Aside0.mk hhs
  have HU := Aside0.mk hU
  have HB := Aside0.mk q2
  have HF : Aside0 (∀ z, Below w.heap.size w z → (Kd.int .u8).C z A P.length P ∧ k30.C z A2 m C) := ⟨fun z hb => ⟨Kd.C_below hp hb, Kd.C_below hC hb⟩⟩
  have H0 := Aside0.mk ((Hp.start w).alloc (.cells #[.int .u32 tk, .int .u32 hs, .slice A P.length c, .slice A2 m c2] 41))
  generalize hn : P.length = n at *
  have HNP := Aside0.mk hn
  clear hp hC hb0 hc hc2 hr hr1 hr2 q1 q2 q3 htk hhs hU hCl hn
  go_enter Try.func14, Try.ntmps14
  go_wp2_with (first | (refine wpList_load_row_g 41 (.tmp 1) rfl (w.heap.size) rfl rfl 41 _ (0, 0) _ (H0.out.get (i := 0) rfl) Try.underlying41 rfl (delta_info _ _ _ _) ?_))
  refine KEY.out.mono ?_
  rintro e V0 ⟨rfl, hb1⟩
  have H1 := Aside0.mk (H0.out.call hb1)
  clear hb1 KEY H0
  go_wp2_with fail
  obtain ⟨gd, hgd⟩ : ∃ gd, w.heap.size = gd := ⟨_, rfl⟩
  rw [hgd] at H1
  rw [hgd]
  obtain ⟨gp, hgp⟩ : ∃ gp, V0.heap.size = gp := ⟨_, rfl⟩
  rw [hgp]
  have HGD := Aside0.mk hgd
  have GD : Aside0 (gd < gp) := ⟨by rw [← hgp]; exact H1.out.lt (i := 0) rfl⟩
  have hP0 : Pn (V0.alloc (.cells #[.slice none 0 0] 81)) gp gp [] (.slice none 0 0) := ⟨by rw [← hgp]; exact blk_new _ _, Kd.R_nil _ _ _ _ _⟩
  have HP0 := Aside0.mk hP0
  have HB0 : Aside0 (Below gp V0 (V0.alloc (.cells #[.slice none 0 0] 81))) := ⟨by rw [← hgp]; exact below_alloc (Below.refl _ _) _⟩
  have HV0 : Aside0 (V0.heap.size = gp) := ⟨hgp⟩
  have HG0 := Aside0.mk (H1.out.get (i := 0) rfl)
  have HF0 : Aside0 (∀ z, Below gp V0 z → (Kd.int .u8).C z A n P ∧ k30.C z A2 m C) := ⟨fun z hz => HF.out z (by rw [HGD.out]; exact H1.out.bel.trans (hz.mono (Nat.le_of_lt GD.out)))⟩
  have IX : Aside0 (IntKind.u8.wrap (n : Int) = ((n % 256 : Nat) : Int)) := ⟨by rw [IntWalk.u8_in _ (by have := HPC.out; omega)]; have := HPC.out; omega⟩
  clear hP0 hgd hgp HF
  generalize hV : V0.alloc (.cells #[.slice none 0 0] 81) = V1 at *
  clear hV
  refine regionS (W := V1)
    [fun _ v => v = .pointer (some ⟨gd, 0, none⟩),
     fun _ v => v = .int .u32 tk,
     fun _ v => v = .pointer (some ⟨gp, 0, none⟩),
     fun _ v => v = .pointer (some ⟨gd, 1, none⟩),
     fun _ v => v = .int .u32 hs,
     fun _ v => v = .pointer (some ⟨gp, 0, none⟩),
     fun _ v => v = .pointer (some ⟨gd, 2, none⟩),
     fun _ v => v = .slice A n c,
     fun _ v => v = .int .i64 n,
     fun _ v => v = .int .u8 ((n % 256 : Nat) : Int),
     fun _ v => v = .pointer (some ⟨gp, 0, none⟩)]
    [2, 5, 10]
    (fun t => match t with | 0 => fun (rs : List Value) (w : World) => ∃ v, Pn w gp gp [] v | 1 => fun (rs : List Value) (w : World) => ∃ v, Pn w gp gp (lowN tk 4) v | 2 => fun (rs : List Value) (w : World) => ∃ v, Pn w gp gp (lowN tk 4 ++ lowN hs 4) v | 3 => fun (rs : List Value) (w : World) => ∃ v, Pn w gp gp (dHead tk hs n) v | _ => fun _ _ => False)
    (fun _ _ _ => True) (fun w => Below gp V0 w ∧ gp ≤ w.heap.size)
    (fun j =>  none)
    [(0, some 9), (1, some 10), (2, some 11), (3, some 12), (4, some 13), (5, some 14), (6, some 15), (7, some 16), (8, some 17), (9, some 18), (10, some 19)]
    []
    (by kernel_rfl) (by kernel_rfl) (by kernel_rfl) (by kernel_rfl) (by kernel_rfl) ?z4_1c ?z4_1i ?z4_1b ?z4_1d ?z4_1g ⟨?z4_1t0, ?z4_1t1, ?z4_1t2, ?z4_1t3, ?z4_1t4, ?z4_1t5, ?z4_1t6, ?z4_1t7, ?z4_1t8, ?z4_1t9, ?z4_1t10, trivial⟩ ⟨?z4_1o0, ?z4_1o1, ?z4_1o2, ?z4_1o3, ?z4_1o4, ?z4_1o5, ?z4_1o6, ?z4_1o7, ?z4_1o8, ?z4_1o9, ?z4_1o10, trivial⟩ ?z4_1e
  case z4_1c => exact ⟨HB0.out.trans (below_drew (Below.refl _ _)), by have := blk_lt HP0.out.1; exact Nat.le_of_lt this⟩
  case z4_1i => exact ⟨_, HP0.out⟩
  case z4_1b => intro w w' hb h; exact ⟨h.1.trans (hb.mono h.2), Nat.le_trans h.2 hb.size⟩
  case z4_1d =>
    intro t rs w w' hb h
    match t, h with
    | 0, h => (replace h : ∃ v, Pn w gp gp [] v := h); show ∃ v, Pn w' gp gp [] v; (obtain ⟨v, h⟩ := h; exact ⟨v, h.below hb⟩)
    | 1, h => (replace h : ∃ v, Pn w gp gp (lowN tk 4) v := h); show ∃ v, Pn w' gp gp (lowN tk 4) v; (obtain ⟨v, h⟩ := h; exact ⟨v, h.below hb⟩)
    | 2, h => (replace h : ∃ v, Pn w gp gp (lowN tk 4 ++ lowN hs 4) v := h); show ∃ v, Pn w' gp gp (lowN tk 4 ++ lowN hs 4) v; (obtain ⟨v, h⟩ := h; exact ⟨v, h.below hb⟩)
    | 3, h => (replace h : ∃ v, Pn w gp gp (dHead tk hs n) v := h); show ∃ v, Pn w' gp gp (dHead tk hs n) v; (obtain ⟨v, h⟩ := h; exact ⟨v, h.below hb⟩)
    | _ + 4, h => exact h.elim
  case z4_1g =>
    intro j hj; cases hj
  case z4_1t0 => exact StabS.const _ _ _ _
  case z4_1t1 => exact StabS.const _ _ _ _
  case z4_1t2 => exact StabS.const _ _ _ _
  case z4_1t3 => exact StabS.const _ _ _ _
  case z4_1t4 => exact StabS.const _ _ _ _
  case z4_1t5 => exact StabS.const _ _ _ _
  case z4_1t6 => exact StabS.const _ _ _ _
  case z4_1t7 => exact StabS.const _ _ _ _
  case z4_1t8 => exact StabS.const _ _ _ _
  case z4_1t9 => exact StabS.const _ _ _ _
  case z4_1t10 => exact StabS.const _ _ _ _
  case z4_1o0 =>
    intro vs w t hC ht1 ht2 hS hV
    rw [if_pos (by kernel_rfl)]
    generalize hρ : rho _ _ _ vs = ρ
    have e1 : ρ (.tmp 1) = .pointer (some ⟨gd, 0, none⟩) := by rw [← hρ]; kernel_rfl
    clear hρ hV
    refine runs_val (v := .pointer (some ⟨gd, 0, none⟩)) (w' := w) ?_ ⟨Below.refl _ _, rfl⟩
    clear ht1 ht2 hS hC
    go_simp <;> (first | exact IntWalk.u64_in _ (by omega) | exact IntWalk.u32_in _ (by omega) | exact IntWalk.u16_in _ (by omega) | exact IntWalk.u8_in _ (by omega) | exact IntWalk.i64_in _ (by omega) | skip)
  case z4_1o1 =>
    intro vs w t hC ht1 ht2 hS hV
    rw [if_pos (by kernel_rfl)]
    generalize hρ : rho _ _ _ vs = ρ
    have d9 : (vs 0) = .pointer (some ⟨gd, 0, none⟩) := hV 0 (by kernel_rfl)
    have e9 : ρ (.tmp 9) = vs 0 := by rw [← hρ]; kernel_rfl
    rw [d9] at e9; clear d9
    clear hρ hV
    have c0 := blk_cell ((hC.1.block gd GD.out).trans HG0.out) 0
    refine runs_val (v := .int .u32 tk) (w' := w) ?_ ⟨Below.refl _ _, rfl⟩
    clear ht1 ht2 hS hC
    go_simp
  case z4_1o2 =>
    intro vs w hC hS hV
    replace hS : ∃ v, Pn w gp gp [] v := hS
    rw [if_pos (by kernel_rfl)]
    generalize hρ : rho _ _ _ vs = ρ
    have e3 : ρ (.tmp 3) = .pointer (some ⟨gp, 0, none⟩) := by rw [← hρ]; kernel_rfl
    have d10 : (vs 1) = .int .u32 tk := hV 1 (by kernel_rfl)
    have e10 : ρ (.tmp 10) = vs 1 := by rw [← hρ]; kernel_rfl
    rw [d10] at e10; clear d10
    have ef38 : ρ (.func 38) = .func (.func 38) #[] #[] := by rw [← hρ]; rfl
    clear hρ hV
    obtain ⟨v, hp⟩ := hS
    refine runs_call (f := 38) (args := #[.pointer (some ⟨gp, 0, none⟩), .int .u32 tk]) (w' := w) ?_ ?_
    · go_simp
    · refine (pword_any gp gp [] v tk HTK.out w hp (Nat.le_refl _) (by simp)).mono ?_
      rintro e w5 ⟨v', rfl, h⟩
      exact ⟨_, rfl, ⟨hC.1.trans h.2.2.2, Nat.le_trans hC.2 h.2.1.1⟩, trivial, rfl, ⟨v', h.1⟩⟩
  case z4_1o3 =>
    intro vs w t hC ht1 ht2 hS hV
    rw [if_pos (by kernel_rfl)]
    generalize hρ : rho _ _ _ vs = ρ
    have e1 : ρ (.tmp 1) = .pointer (some ⟨gd, 0, none⟩) := by rw [← hρ]; kernel_rfl
    clear hρ hV
    refine runs_val (v := .pointer (some ⟨gd, 1, none⟩)) (w' := w) ?_ ⟨Below.refl _ _, rfl⟩
    clear ht1 ht2 hS hC
    go_simp <;> (first | exact IntWalk.u64_in _ (by omega) | exact IntWalk.u32_in _ (by omega) | exact IntWalk.u16_in _ (by omega) | exact IntWalk.u8_in _ (by omega) | exact IntWalk.i64_in _ (by omega) | skip)
  case z4_1o4 =>
    intro vs w t hC ht1 ht2 hS hV
    rw [if_pos (by kernel_rfl)]
    generalize hρ : rho _ _ _ vs = ρ
    have d12 : (vs 3) = .pointer (some ⟨gd, 1, none⟩) := hV 3 (by kernel_rfl)
    have e12 : ρ (.tmp 12) = vs 3 := by rw [← hρ]; kernel_rfl
    rw [d12] at e12; clear d12
    clear hρ hV
    have c0 := blk_cell ((hC.1.block gd GD.out).trans HG0.out) 1
    refine runs_val (v := .int .u32 hs) (w' := w) ?_ ⟨Below.refl _ _, rfl⟩
    clear ht1 ht2 hS hC
    go_simp
  case z4_1o5 =>
    intro vs w hC hS hV
    replace hS : ∃ v, Pn w gp gp (lowN tk 4) v := hS
    rw [if_pos (by kernel_rfl)]
    generalize hρ : rho _ _ _ vs = ρ
    have d11 : (vs 2) = .pointer (some ⟨gp, 0, none⟩) := hV 2 (by kernel_rfl)
    have e11 : ρ (.tmp 11) = vs 2 := by rw [← hρ]; kernel_rfl
    rw [d11] at e11; clear d11
    have d13 : (vs 4) = .int .u32 hs := hV 4 (by kernel_rfl)
    have e13 : ρ (.tmp 13) = vs 4 := by rw [← hρ]; kernel_rfl
    rw [d13] at e13; clear d13
    have ef38 : ρ (.func 38) = .func (.func 38) #[] #[] := by rw [← hρ]; rfl
    clear hρ hV
    obtain ⟨v, hp⟩ := hS
    refine runs_call (f := 38) (args := #[.pointer (some ⟨gp, 0, none⟩), .int .u32 hs]) (w' := w) ?_ ?_
    · go_simp
    · refine (pword_any gp gp (lowN tk 4) v hs HHS.out w hp (Nat.le_refl _) (by rw [lowN_length]; omega)).mono ?_
      rintro e w5 ⟨v', rfl, h⟩
      exact ⟨_, rfl, ⟨hC.1.trans h.2.2.2, Nat.le_trans hC.2 h.2.1.1⟩, trivial, rfl, ⟨v', h.1⟩⟩
  case z4_1o6 =>
    intro vs w t hC ht1 ht2 hS hV
    rw [if_pos (by kernel_rfl)]
    generalize hρ : rho _ _ _ vs = ρ
    have e1 : ρ (.tmp 1) = .pointer (some ⟨gd, 0, none⟩) := by rw [← hρ]; kernel_rfl
    clear hρ hV
    refine runs_val (v := .pointer (some ⟨gd, 2, none⟩)) (w' := w) ?_ ⟨Below.refl _ _, rfl⟩
    clear ht1 ht2 hS hC
    go_simp <;> (first | exact IntWalk.u64_in _ (by omega) | exact IntWalk.u32_in _ (by omega) | exact IntWalk.u16_in _ (by omega) | exact IntWalk.u8_in _ (by omega) | exact IntWalk.i64_in _ (by omega) | skip)
  case z4_1o7 =>
    intro vs w t hC ht1 ht2 hS hV
    rw [if_pos (by kernel_rfl)]
    generalize hρ : rho _ _ _ vs = ρ
    have d15 : (vs 6) = .pointer (some ⟨gd, 2, none⟩) := hV 6 (by kernel_rfl)
    have e15 : ρ (.tmp 15) = vs 6 := by rw [← hρ]; kernel_rfl
    rw [d15] at e15; clear d15
    clear hρ hV
    have c0 := blk_cell ((hC.1.block gd GD.out).trans HG0.out) 2
    refine runs_val (v := .slice A n c) (w' := w) ?_ ⟨Below.refl _ _, rfl⟩
    clear ht1 ht2 hS hC
    go_simp
  case z4_1o8 =>
    intro vs w t hC ht1 ht2 hS hV
    rw [if_pos (by kernel_rfl)]
    generalize hρ : rho _ _ _ vs = ρ
    have d16 : (vs 7) = .slice A n c := hV 7 (by kernel_rfl)
    have e16 : ρ (.tmp 16) = vs 7 := by rw [← hρ]; kernel_rfl
    rw [d16] at e16; clear d16
    clear hρ hV
    refine runs_val (v := .int .i64 n) (w' := w) ?_ ⟨Below.refl _ _, rfl⟩
    clear ht1 ht2 hS hC
    go_simp <;> (first | exact IntWalk.u64_in _ (by omega) | exact IntWalk.u32_in _ (by omega) | exact IntWalk.u16_in _ (by omega) | exact IntWalk.u8_in _ (by omega) | exact IntWalk.i64_in _ (by omega) | skip)
  case z4_1o9 =>
    intro vs w t hC ht1 ht2 hS hV
    rw [if_pos (by kernel_rfl)]
    generalize hρ : rho _ _ _ vs = ρ
    have d17 : (vs 8) = .int .i64 n := hV 8 (by kernel_rfl)
    have e17 : ρ (.tmp 17) = vs 8 := by rw [← hρ]; kernel_rfl
    rw [d17] at e17; clear d17
    clear hρ hV
    have ix := IX.out
    refine runs_val (v := .int .u8 ((n % 256 : Nat) : Int)) (w' := w) ?_ ⟨Below.refl _ _, rfl⟩
    clear ht1 ht2 hS hC
    rw [← ix]
    clear ix
    go_simp
  case z4_1o10 =>
    intro vs w hC hS hV
    replace hS : ∃ v, Pn w gp gp (lowN tk 4 ++ lowN hs 4) v := hS
    rw [if_pos (by kernel_rfl)]
    generalize hρ : rho _ _ _ vs = ρ
    have d14 : (vs 5) = .pointer (some ⟨gp, 0, none⟩) := hV 5 (by kernel_rfl)
    have e14 : ρ (.tmp 14) = vs 5 := by rw [← hρ]; kernel_rfl
    rw [d14] at e14; clear d14
    have d18 : (vs 9) = .int .u8 ((n % 256 : Nat) : Int) := hV 9 (by kernel_rfl)
    have e18 : ρ (.tmp 18) = vs 9 := by rw [← hρ]; kernel_rfl
    rw [d18] at e18; clear d18
    have ef39 : ρ (.func 39) = .func (.func 39) #[] #[] := by rw [← hρ]; rfl
    clear hρ hV
    obtain ⟨v, hp⟩ := hS
    refine runs_call (f := 39) (args := #[.pointer (some ⟨gp, 0, none⟩), .int .u8 ((n % 256 : Nat) : Int)]) (w' := w) ?_ ?_
    · go_simp
    · refine (pbyte_any gp gp (lowN tk 4 ++ lowN hs 4) v _ w hp (Nat.le_refl _) (by rw [List.length_append, lowN_length, lowN_length]; omega)).mono ?_
      rintro e w5 ⟨v', rfl, h⟩
      exact ⟨_, rfl, ⟨hC.1.trans h.2.2.2, Nat.le_trans hC.2 h.2.1.1⟩, trivial, rfl, ⟨v', h.1⟩⟩
  case z4_1e =>
    intro vs V2 hC hS hV
    replace hS : (fun (w : World) => ∃ v, Pn w gp gp (dHead tk hs n) v) V2 := hS
    have d9 : (vs 0) = .pointer (some ⟨gd, 0, none⟩) := hV 0 (Nat.le_of_ble_eq_true rfl)
    have d10 : (vs 1) = .int .u32 tk := hV 1 (Nat.le_of_ble_eq_true rfl)
    have d11 : (vs 2) = .pointer (some ⟨gp, 0, none⟩) := hV 2 (Nat.le_of_ble_eq_true rfl)
    have d12 : (vs 3) = .pointer (some ⟨gd, 1, none⟩) := hV 3 (Nat.le_of_ble_eq_true rfl)
    have d13 : (vs 4) = .int .u32 hs := hV 4 (Nat.le_of_ble_eq_true rfl)
    have d14 : (vs 5) = .pointer (some ⟨gp, 0, none⟩) := hV 5 (Nat.le_of_ble_eq_true rfl)
    have d15 : (vs 6) = .pointer (some ⟨gd, 2, none⟩) := hV 6 (Nat.le_of_ble_eq_true rfl)
    have d16 : (vs 7) = .slice A n c := hV 7 (Nat.le_of_ble_eq_true rfl)
    have d17 : (vs 8) = .int .i64 n := hV 8 (Nat.le_of_ble_eq_true rfl)
    have d18 : (vs 9) = .int .u8 ((n % 256 : Nat) : Int) := hV 9 (Nat.le_of_ble_eq_true rfl)
    have d19 : (vs 10) = .pointer (some ⟨gp, 0, none⟩) := hV 10 (Nat.le_of_ble_eq_true rfl)
    clear hV
    simp only [putAll]
    rw [d9, d10, d11, d12, d13, d14, d15, d16, d17, d18, d19]
    clear d9 d10 d11 d12 d13 d14 d15 d16 d17 d18 d19
    clear vs
    simp only [Act.put, List.setIfInBounds_toArray, List.set_cons_zero, List.set_cons_succ]
    have HP2 := Aside0.mk hS
    have HB2 := Aside0.mk hC.1
    have GC2 := Aside0.mk hC.2
    clear hS hC HP0 HB0
    have c3 := blk_cell ((HB2.out.block gd GD.out).trans HG0.out) 3
    go_wp2_with fail
    clear c3
    go_loopw [23] (fun v23 wr => ∃ i : Nat, i ≤ m ∧ v23 = .int .i64 i ∧ Aside0 ((∃ v, Pn wr gp gp (dHead tk hs n ++ dRows (P.take i) (C.take i)) v) ∧ Below gp V0 wr)) (fun v23 _ => m - (intOf v23).toNat)
    case atStart => exact ⟨0, by omega, rfl, ⟨by simpa [dRows] using HP2.out, HB2.out⟩⟩
    case round =>
      clear HP2 HB2 GC2
      obtain ⟨i, hi, rfl, H⟩ := hrel
      by_cases hlt : i < m
      · have d1 : decide (i < m) = true := decide_eq_true hlt
        have hiP : i < P.length := by rw [HNP.out, HPC.out.1]; exact hlt
        have hiC : i < C.length := by rw [HPC.out.2.1]; exact hlt
        have HI := Aside0.mk (And.intro hiP hiC)
        obtain ⟨f1, f2⟩ := HF0.out wr H.out.2
        obtain ⟨adp, hA, p0⟩ := int_at f1 i hiP
        obtain ⟨adc, hA2, q0, q1⟩ := cell_at25 f2 hiC
        have HROW := Aside0.mk (dRows_succ hiP hiC)
        have HPI0 : Aside0 (∀ z, Below gp V0 z → ∃ ad, A = some ad ∧ z.cell? (ad.add i) = some (.int .u8 P[i])) := ⟨fun z hz => int_at (HF0.out z hz).1 i hiP⟩
        have HX := HB.out _ (List.getElem_mem hiP)
        have HY := HU.out _ (List.getElem_mem hiC)
        subst hA hA2
        have HPI : Aside0 (∀ z, Below gp V0 z → z.cell? (adp.add i) = some (.int .u8 P[i])) := ⟨fun z hz => by obtain ⟨ad, e, h⟩ := HPI0.out z hz; rw [Option.some.inj e]; exact h⟩
        clear HPI0
        have hi0 : (0 : Int) ≤ i := by omega
        have him : (i : Int) < m := by omega
        have hin : (i : Int) < n := by have := HPC.out; omega
        obtain ⟨pi, hpi⟩ : ∃ pi, P[i] = pi := ⟨_, rfl⟩
        obtain ⟨x, hx⟩ : ∃ x, C[i] = x := ⟨_, rfl⟩
        rw [hpi] at p0 HROW HPI
        rw [hx] at q0 q1 HROW HY
        obtain ⟨y0, hy0⟩ : ∃ y0 : Nat, x.f1 = (y0 : Int) := ⟨x.f1.toNat, by unfold U32 at HY; omega⟩
        obtain ⟨x0, hx0⟩ : ∃ x0 : Nat, x.f0 % 4294967296 = (x0 : Int) := ⟨(x.f0 % 4294967296).toNat, by omega⟩
        obtain ⟨z0, hz0⟩ : ∃ z0 : Int, x.f0 = z0 := ⟨_, rfl⟩
        have hcb : cellB true x = lowN x0 4 ++ lowN y0 4 := by unfold cellB; rw [if_pos rfl, hx0, hy0]; simp
        rw [hcb] at HROW
        rw [hz0] at q0 hx0
        rw [hy0] at q1 HY
        have HXW : Aside0 (IntKind.u32.wrap z0 = (x0 : Int) ∧ x0 < 4294967296 ∧ y0 < 4294967296) := ⟨by rw [IntKind.wrap_u32, hx0], by omega, by unfold U32 at HY; omega⟩
        have HLEN : Aside0 ((dHead tk hs n ++ dRows (P.take i) (C.take i)).length ≤ 10000) := ⟨by
          have h1 := dRows_len (P.take i) (C.take i)
          have h2 : (P.take i).length ≤ n := by rw [List.length_take, HNP.out]; omega
          simp only [List.length_append, dHead, lowN_length, List.length_cons, List.length_nil]
          omega⟩
        clear hpi hx hcb hx0 hz0 hy0 HX HY f1 f2
        obtain ⟨W0, hW0⟩ : ∃ W0, dHead tk hs n ++ dRows (P.take i) (C.take i) = W0 := ⟨_, rfl⟩
        rw [hW0] at H HLEN
        have HW0 := Aside0.mk hW0
        clear hW0
        go_wp2_with fail
        have HC0 : Aside0 (Below gp V0 (wr.alloc (.cells #[.int .i32 z0, .int .u32 y0] 30))) := ⟨H.out.2.trans (below_alloc (Below.refl _ _) _ |>.mono (by obtain ⟨v, hv⟩ := H.out.1; exact Nat.le_of_lt hv.lt))⟩
        have HS0 : Aside0 (∃ v, Pn (wr.alloc (.cells #[.int .i32 z0, .int .u32 y0] 30)) gp gp W0 v ∧ v.ownBlock ≠ some wr.heap.size) := ⟨by
          obtain ⟨v, hv⟩ := H.out.1
          exact ⟨v, hv.below (below_alloc (Below.refl _ _) _), fun e => by have := hv.own _ e; omega⟩⟩
        have GC0 := Aside0.mk (blk_new wr (.cells #[.int .i32 z0, .int .u32 y0] 30))
        have GNE : Aside0 (wr.heap.size ≠ gp ∧ gp ≤ wr.heap.size) := ⟨by obtain ⟨v, hv⟩ := H.out.1; have := hv.lt; exact ⟨by omega, by omega⟩⟩
        have GSZ : Aside0 (gp ≤ (wr.alloc (.cells #[.int .i32 z0, .int .u32 y0] 30)).heap.size) := ⟨by have := GNE.out.2; simp; omega⟩
        generalize wr.alloc (.cells #[.int .i32 z0, .int .u32 y0] 30) = z1 at *
        generalize wr.heap.size = gc at *
        clear H
        refine regionS (W := z1)
          [fun _ v => v = .pointer (some ⟨gd, 2, none⟩),
           fun _ v => v = .slice (some adp) n c,
           fun _ v => v = .int .i64 i,
           fun _ v => v = .pointer (some (adp.add i)),
           fun _ v => v = .int .u8 pi,
           fun _ v => v = .pointer (some ⟨gp, 0, none⟩),
           fun _ v => v = .pointer (some ⟨gc, 0, none⟩),
           fun _ v => v = .int .i32 z0,
           fun _ v => v = .int .u32 x0,
           fun _ v => v = .pointer (some ⟨gp, 0, none⟩),
           fun _ v => v = .pointer (some ⟨gc, 1, none⟩),
           fun _ v => v = .int .u32 y0,
           fun _ v => v = .pointer (some ⟨gp, 0, none⟩)]
          [5, 9, 12]
          (fun t => match t with | 0 => fun (rs : List Value) (w : World) => ∃ v, Pn w gp gp W0 v ∧ v.ownBlock ≠ some gc | 1 => fun (rs : List Value) (w : World) => ∃ v, Pn w gp gp (W0 ++ [pi]) v ∧ v.ownBlock ≠ some gc | 2 => fun (rs : List Value) (w : World) => ∃ v, Pn w gp gp (W0 ++ [pi] ++ lowN x0 4) v ∧ v.ownBlock ≠ some gc | 3 => fun (rs : List Value) (w : World) => ∃ v, Pn w gp gp (W0 ++ [pi] ++ lowN x0 4 ++ lowN y0 4) v ∧ v.ownBlock ≠ some gc | _ => fun _ _ => False)
          (fun _ _ _ => True) (fun w => Below gp V0 w ∧ gp ≤ w.heap.size ∧ w.heap[gc]? = some (.cells #[.int .i32 z0, .int .u32 y0] 30 (0, 0)))
          (fun j =>  none)
          [(0, some 28), (1, some 29), (2, some 30), (3, some 31), (4, some 32), (5, some 33), (6, some 34), (7, some 35), (8, some 36), (9, some 37), (10, some 38), (11, some 39), (12, some 40)]
          []
          (by kernel_rfl) (by kernel_rfl) (by kernel_rfl) (by kernel_rfl) (by kernel_rfl) ?z8_2c ?z8_2i ?z8_2b ?z8_2d ?z8_2g ⟨?z8_2t0, ?z8_2t1, ?z8_2t2, ?z8_2t3, ?z8_2t4, ?z8_2t5, ?z8_2t6, ?z8_2t7, ?z8_2t8, ?z8_2t9, ?z8_2t10, ?z8_2t11, ?z8_2t12, trivial⟩ ⟨?z8_2o0, ?z8_2o1, ?z8_2o2, ?z8_2o3, ?z8_2o4, ?z8_2o5, ?z8_2o6, ?z8_2o7, ?z8_2o8, ?z8_2o9, ?z8_2o10, ?z8_2o11, ?z8_2o12, trivial⟩ ?z8_2e
        case z8_2c => exact ⟨HC0.out.trans (below_drew (Below.refl _ _)), GSZ.out, GC0.out⟩
        case z8_2i => exact HS0.out
        case z8_2b => intro w w' hb h; exact ⟨h.1.trans (hb.mono h.2.1), Nat.le_trans h.2.1 hb.size, blk_below h.2.2 hb⟩
        case z8_2d =>
          intro t rs w w' hb h
          match t, h with
          | 0, h => (replace h : ∃ v, Pn w gp gp W0 v ∧ v.ownBlock ≠ some gc := h); show ∃ v, Pn w' gp gp W0 v ∧ v.ownBlock ≠ some gc; (obtain ⟨v, h, h2⟩ := h; exact ⟨v, h.below hb, h2⟩)
          | 1, h => (replace h : ∃ v, Pn w gp gp (W0 ++ [pi]) v ∧ v.ownBlock ≠ some gc := h); show ∃ v, Pn w' gp gp (W0 ++ [pi]) v ∧ v.ownBlock ≠ some gc; (obtain ⟨v, h, h2⟩ := h; exact ⟨v, h.below hb, h2⟩)
          | 2, h => (replace h : ∃ v, Pn w gp gp (W0 ++ [pi] ++ lowN x0 4) v ∧ v.ownBlock ≠ some gc := h); show ∃ v, Pn w' gp gp (W0 ++ [pi] ++ lowN x0 4) v ∧ v.ownBlock ≠ some gc; (obtain ⟨v, h, h2⟩ := h; exact ⟨v, h.below hb, h2⟩)
          | 3, h => (replace h : ∃ v, Pn w gp gp (W0 ++ [pi] ++ lowN x0 4 ++ lowN y0 4) v ∧ v.ownBlock ≠ some gc := h); show ∃ v, Pn w' gp gp (W0 ++ [pi] ++ lowN x0 4 ++ lowN y0 4) v ∧ v.ownBlock ≠ some gc; (obtain ⟨v, h, h2⟩ := h; exact ⟨v, h.below hb, h2⟩)
          | _ + 4, h => exact h.elim
        case z8_2g =>
          intro j hj; cases hj
        case z8_2t0 => exact StabS.const _ _ _ _
        case z8_2t1 => exact StabS.const _ _ _ _
        case z8_2t2 => exact StabS.const _ _ _ _
        case z8_2t3 => exact StabS.const _ _ _ _
        case z8_2t4 => exact StabS.const _ _ _ _
        case z8_2t5 => exact StabS.const _ _ _ _
        case z8_2t6 => exact StabS.const _ _ _ _
        case z8_2t7 => exact StabS.const _ _ _ _
        case z8_2t8 => exact StabS.const _ _ _ _
        case z8_2t9 => exact StabS.const _ _ _ _
        case z8_2t10 => exact StabS.const _ _ _ _
        case z8_2t11 => exact StabS.const _ _ _ _
        case z8_2t12 => exact StabS.const _ _ _ _
        case z8_2o0 =>
          intro vs w t hC ht1 ht2 hS hV
          rw [if_pos (by kernel_rfl)]
          generalize hρ : rho _ _ _ vs = ρ
          have e1 : ρ (.tmp 1) = .pointer (some ⟨gd, 0, none⟩) := by rw [← hρ]; kernel_rfl
          clear hρ hV
          refine runs_val (v := .pointer (some ⟨gd, 2, none⟩)) (w' := w) ?_ ⟨Below.refl _ _, rfl⟩
          clear ht1 ht2 hS hC
          go_simp <;> (first | exact IntWalk.u64_in _ (by omega) | exact IntWalk.u32_in _ (by omega) | exact IntWalk.u16_in _ (by omega) | exact IntWalk.u8_in _ (by omega) | exact IntWalk.i64_in _ (by omega) | skip)
        case z8_2o1 =>
          intro vs w t hC ht1 ht2 hS hV
          rw [if_pos (by kernel_rfl)]
          generalize hρ : rho _ _ _ vs = ρ
          have d28 : (vs 0) = .pointer (some ⟨gd, 2, none⟩) := hV 0 (by kernel_rfl)
          have e28 : ρ (.tmp 28) = vs 0 := by rw [← hρ]; kernel_rfl
          rw [d28] at e28; clear d28
          clear hρ hV
          have c0 := blk_cell ((hC.1.block gd GD.out).trans HG0.out) 2
          refine runs_val (v := .slice (some adp) n c) (w' := w) ?_ ⟨Below.refl _ _, rfl⟩
          clear ht1 ht2 hS hC
          go_simp
        case z8_2o2 =>
          intro vs w t hC ht1 ht2 hS hV
          rw [if_pos (by kernel_rfl)]
          generalize hρ : rho _ _ _ vs = ρ
          have e4 : ρ (.tmp 4) = .int .i64 i := by rw [← hρ]; kernel_rfl
          clear hρ hV
          refine runs_val (v := .int .i64 i) (w' := w) ?_ ⟨Below.refl _ _, rfl⟩
          clear ht1 ht2 hS hC
          go_simp <;> (first | exact IntWalk.u64_in _ (by omega) | exact IntWalk.u32_in _ (by omega) | exact IntWalk.u16_in _ (by omega) | exact IntWalk.u8_in _ (by omega) | exact IntWalk.i64_in _ (by omega) | skip)
        case z8_2o3 =>
          intro vs w t hC ht1 ht2 hS hV
          rw [if_pos (by kernel_rfl)]
          generalize hρ : rho _ _ _ vs = ρ
          have d29 : (vs 1) = .slice (some adp) n c := hV 1 (by kernel_rfl)
          have e29 : ρ (.tmp 29) = vs 1 := by rw [← hρ]; kernel_rfl
          rw [d29] at e29; clear d29
          have d30 : (vs 2) = .int .i64 i := hV 2 (by kernel_rfl)
          have e30 : ρ (.tmp 30) = vs 2 := by rw [← hρ]; kernel_rfl
          rw [d30] at e30; clear d30
          clear hρ hV
          refine runs_val (v := .pointer (some (adp.add i))) (w' := w) ?_ ⟨Below.refl _ _, rfl⟩
          clear ht1 ht2 hS hC
          go_simp <;> (first | exact IntWalk.u64_in _ (by omega) | exact IntWalk.u32_in _ (by omega) | exact IntWalk.u16_in _ (by omega) | exact IntWalk.u8_in _ (by omega) | exact IntWalk.i64_in _ (by omega) | skip)
        case z8_2o4 =>
          intro vs w t hC ht1 ht2 hS hV
          rw [if_pos (by kernel_rfl)]
          generalize hρ : rho _ _ _ vs = ρ
          have d31 : (vs 3) = .pointer (some (adp.add i)) := hV 3 (by kernel_rfl)
          have e31 : ρ (.tmp 31) = vs 3 := by rw [← hρ]; kernel_rfl
          rw [d31] at e31; clear d31
          clear hρ hV
          have c0 := HPI.out w hC.1
          refine runs_val (v := .int .u8 pi) (w' := w) ?_ ⟨Below.refl _ _, rfl⟩
          clear ht1 ht2 hS hC
          go_simp
        case z8_2o5 =>
          intro vs w hC hS hV
          replace hS : ∃ v, Pn w gp gp W0 v ∧ v.ownBlock ≠ some gc := hS
          rw [if_pos (by kernel_rfl)]
          generalize hρ : rho _ _ _ vs = ρ
          have e3 : ρ (.tmp 3) = .pointer (some ⟨gp, 0, none⟩) := by rw [← hρ]; kernel_rfl
          have d32 : (vs 4) = .int .u8 pi := hV 4 (by kernel_rfl)
          have e32 : ρ (.tmp 32) = vs 4 := by rw [← hρ]; kernel_rfl
          rw [d32] at e32; clear d32
          have ef39 : ρ (.func 39) = .func (.func 39) #[] #[] := by rw [← hρ]; rfl
          clear hρ hV
          obtain ⟨v, hp, hv⟩ := hS
          refine runs_call (f := 39) (args := #[.pointer (some ⟨gp, 0, none⟩), .int .u8 pi]) (w' := w) ?_ ?_
          · go_simp
          · refine (pbyte_any gp gp W0 v _ w hp (Nat.le_refl _) (by have := HLEN.out; omega)).mono ?_
            rintro e w5 ⟨v', rfl, h⟩
            obtain ⟨k1, k2⟩ := h.blk hC.2.2 GNE.out.1 hv
            exact ⟨_, rfl, ⟨hC.1.trans h.2.2.2, Nat.le_trans hC.2.1 h.2.1.1, k1⟩, trivial, rfl, ⟨v', h.1, k2⟩⟩
        case z8_2o6 =>
          intro vs w t hC ht1 ht2 hS hV
          rw [if_pos (by kernel_rfl)]
          generalize hρ : rho _ _ _ vs = ρ
          have e5 : ρ (.tmp 5) = .pointer (some ⟨gc, 0, none⟩) := by rw [← hρ]; kernel_rfl
          clear hρ hV
          refine runs_val (v := .pointer (some ⟨gc, 0, none⟩)) (w' := w) ?_ ⟨Below.refl _ _, rfl⟩
          clear ht1 ht2 hS hC
          go_simp <;> (first | exact IntWalk.u64_in _ (by omega) | exact IntWalk.u32_in _ (by omega) | exact IntWalk.u16_in _ (by omega) | exact IntWalk.u8_in _ (by omega) | exact IntWalk.i64_in _ (by omega) | skip)
        case z8_2o7 =>
          intro vs w t hC ht1 ht2 hS hV
          rw [if_pos (by kernel_rfl)]
          generalize hρ : rho _ _ _ vs = ρ
          have d34 : (vs 6) = .pointer (some ⟨gc, 0, none⟩) := hV 6 (by kernel_rfl)
          have e34 : ρ (.tmp 34) = vs 6 := by rw [← hρ]; kernel_rfl
          rw [d34] at e34; clear d34
          clear hρ hV
          have c0 := blk_cell hC.2.2 0
          refine runs_val (v := .int .i32 z0) (w' := w) ?_ ⟨Below.refl _ _, rfl⟩
          clear ht1 ht2 hS hC
          go_simp
        case z8_2o8 =>
          intro vs w t hC ht1 ht2 hS hV
          rw [if_pos (by kernel_rfl)]
          generalize hρ : rho _ _ _ vs = ρ
          have d35 : (vs 7) = .int .i32 z0 := hV 7 (by kernel_rfl)
          have e35 : ρ (.tmp 35) = vs 7 := by rw [← hρ]; kernel_rfl
          rw [d35] at e35; clear d35
          clear hρ hV
          have ix := HXW.out.1
          refine runs_val (v := .int .u32 x0) (w' := w) ?_ ⟨Below.refl _ _, rfl⟩
          clear ht1 ht2 hS hC
          rw [← ix]
          clear ix
          go_simp
        case z8_2o9 =>
          intro vs w hC hS hV
          replace hS : ∃ v, Pn w gp gp (W0 ++ [pi]) v ∧ v.ownBlock ≠ some gc := hS
          rw [if_pos (by kernel_rfl)]
          generalize hρ : rho _ _ _ vs = ρ
          have d33 : (vs 5) = .pointer (some ⟨gp, 0, none⟩) := hV 5 (by kernel_rfl)
          have e33 : ρ (.tmp 33) = vs 5 := by rw [← hρ]; kernel_rfl
          rw [d33] at e33; clear d33
          have d36 : (vs 8) = .int .u32 x0 := hV 8 (by kernel_rfl)
          have e36 : ρ (.tmp 36) = vs 8 := by rw [← hρ]; kernel_rfl
          rw [d36] at e36; clear d36
          have ef38 : ρ (.func 38) = .func (.func 38) #[] #[] := by rw [← hρ]; rfl
          clear hρ hV
          obtain ⟨v, hp, hv⟩ := hS
          refine runs_call (f := 38) (args := #[.pointer (some ⟨gp, 0, none⟩), .int .u32 x0]) (w' := w) ?_ ?_
          · go_simp
          · refine (pword_any gp gp (W0 ++ [pi]) v x0 HXW.out.2.1 w hp (Nat.le_refl _) (by have := HLEN.out; simp only [List.length_append, List.length_cons, List.length_nil]; omega)).mono ?_
            rintro e w5 ⟨v', rfl, h⟩
            obtain ⟨k1, k2⟩ := h.blk hC.2.2 GNE.out.1 hv
            exact ⟨_, rfl, ⟨hC.1.trans h.2.2.2, Nat.le_trans hC.2.1 h.2.1.1, k1⟩, trivial, rfl, ⟨v', h.1, k2⟩⟩
        case z8_2o10 =>
          intro vs w t hC ht1 ht2 hS hV
          rw [if_pos (by kernel_rfl)]
          generalize hρ : rho _ _ _ vs = ρ
          have e5 : ρ (.tmp 5) = .pointer (some ⟨gc, 0, none⟩) := by rw [← hρ]; kernel_rfl
          clear hρ hV
          refine runs_val (v := .pointer (some ⟨gc, 1, none⟩)) (w' := w) ?_ ⟨Below.refl _ _, rfl⟩
          clear ht1 ht2 hS hC
          go_simp <;> (first | exact IntWalk.u64_in _ (by omega) | exact IntWalk.u32_in _ (by omega) | exact IntWalk.u16_in _ (by omega) | exact IntWalk.u8_in _ (by omega) | exact IntWalk.i64_in _ (by omega) | skip)
        case z8_2o11 =>
          intro vs w t hC ht1 ht2 hS hV
          rw [if_pos (by kernel_rfl)]
          generalize hρ : rho _ _ _ vs = ρ
          have d38 : (vs 10) = .pointer (some ⟨gc, 1, none⟩) := hV 10 (by kernel_rfl)
          have e38 : ρ (.tmp 38) = vs 10 := by rw [← hρ]; kernel_rfl
          rw [d38] at e38; clear d38
          clear hρ hV
          have c0 := blk_cell hC.2.2 1
          refine runs_val (v := .int .u32 y0) (w' := w) ?_ ⟨Below.refl _ _, rfl⟩
          clear ht1 ht2 hS hC
          go_simp
        case z8_2o12 =>
          intro vs w hC hS hV
          replace hS : ∃ v, Pn w gp gp (W0 ++ [pi] ++ lowN x0 4) v ∧ v.ownBlock ≠ some gc := hS
          rw [if_pos (by kernel_rfl)]
          generalize hρ : rho _ _ _ vs = ρ
          have d37 : (vs 9) = .pointer (some ⟨gp, 0, none⟩) := hV 9 (by kernel_rfl)
          have e37 : ρ (.tmp 37) = vs 9 := by rw [← hρ]; kernel_rfl
          rw [d37] at e37; clear d37
          have d39 : (vs 11) = .int .u32 y0 := hV 11 (by kernel_rfl)
          have e39 : ρ (.tmp 39) = vs 11 := by rw [← hρ]; kernel_rfl
          rw [d39] at e39; clear d39
          have ef38 : ρ (.func 38) = .func (.func 38) #[] #[] := by rw [← hρ]; rfl
          clear hρ hV
          obtain ⟨v, hp, hv⟩ := hS
          refine runs_call (f := 38) (args := #[.pointer (some ⟨gp, 0, none⟩), .int .u32 y0]) (w' := w) ?_ ?_
          · go_simp
          · refine (pword_any gp gp (W0 ++ [pi] ++ lowN x0 4) v y0 HXW.out.2.2 w hp (Nat.le_refl _) (by have := HLEN.out; simp only [List.length_append, List.length_cons, List.length_nil, lowN_length]; omega)).mono ?_
            rintro e w5 ⟨v', rfl, h⟩
            obtain ⟨k1, k2⟩ := h.blk hC.2.2 GNE.out.1 hv
            exact ⟨_, rfl, ⟨hC.1.trans h.2.2.2, Nat.le_trans hC.2.1 h.2.1.1, k1⟩, trivial, rfl, ⟨v', h.1, k2⟩⟩
        case z8_2e =>
          intro vs z2 hC hS hV
          replace hS : (fun (w : World) => ∃ v, Pn w gp gp (W0 ++ [pi] ++ lowN x0 4 ++ lowN y0 4) v ∧ v.ownBlock ≠ some gc) z2 := hS
          have d28 : (vs 0) = .pointer (some ⟨gd, 2, none⟩) := hV 0 (Nat.le_of_ble_eq_true rfl)
          have d29 : (vs 1) = .slice (some adp) n c := hV 1 (Nat.le_of_ble_eq_true rfl)
          have d30 : (vs 2) = .int .i64 i := hV 2 (Nat.le_of_ble_eq_true rfl)
          have d31 : (vs 3) = .pointer (some (adp.add i)) := hV 3 (Nat.le_of_ble_eq_true rfl)
          have d32 : (vs 4) = .int .u8 pi := hV 4 (Nat.le_of_ble_eq_true rfl)
          have d33 : (vs 5) = .pointer (some ⟨gp, 0, none⟩) := hV 5 (Nat.le_of_ble_eq_true rfl)
          have d34 : (vs 6) = .pointer (some ⟨gc, 0, none⟩) := hV 6 (Nat.le_of_ble_eq_true rfl)
          have d35 : (vs 7) = .int .i32 z0 := hV 7 (Nat.le_of_ble_eq_true rfl)
          have d36 : (vs 8) = .int .u32 x0 := hV 8 (Nat.le_of_ble_eq_true rfl)
          have d37 : (vs 9) = .pointer (some ⟨gp, 0, none⟩) := hV 9 (Nat.le_of_ble_eq_true rfl)
          have d38 : (vs 10) = .pointer (some ⟨gc, 1, none⟩) := hV 10 (Nat.le_of_ble_eq_true rfl)
          have d39 : (vs 11) = .int .u32 y0 := hV 11 (Nat.le_of_ble_eq_true rfl)
          have d40 : (vs 12) = .pointer (some ⟨gp, 0, none⟩) := hV 12 (Nat.le_of_ble_eq_true rfl)
          clear hV
          simp only [putAll]
          rw [d28, d29, d30, d31, d32, d33, d34, d35, d36, d37, d38, d39, d40]
          clear d28 d29 d30 d31 d32 d33 d34 d35 d36 d37 d38 d39 d40
          clear vs
          simp only [Act.put, List.setIfInBounds_toArray, List.set_cons_zero, List.set_cons_succ]
          have HE : Aside0 ((∃ v, Pn z2 gp gp (dHead tk hs n ++ dRows (P.take (i + 1)) (C.take (i + 1))) v) ∧ Below gp V0 z2) := ⟨by
            obtain ⟨v, h1, _⟩ := hS
            refine ⟨⟨v, ?_⟩, hC.1⟩
            rw [HROW.out, ← List.append_assoc, HW0.out]
            have e : W0 ++ (pi :: (lowN x0 4 ++ lowN y0 4)) = W0 ++ [pi] ++ lowN x0 4 ++ lowN y0 4 := by simp
            rw [e]; exact h1⟩
          clear hS hC HC0 HS0 GC0 GNE GSZ
          go_wp2_with fail
          go_roundw
          case rel => exact ⟨i + 1, by omega, by go_num, HE⟩
          case measure => simp [intOf]; omega
      · obtain rfl : i = m := by omega
        have d1 : decide (i < i) = false := decide_eq_false (by omega)
        obtain ⟨v, hv⟩ := H.out.1
        have HE : Aside0 (dHead tk hs n ++ dRows (P.take i) (C.take i) = dBytes tk hs P C) := ⟨by unfold dBytes; rw [List.take_of_length_le (by rw [HNP.out, HPC.out.1]; omega), List.take_of_length_le (by rw [HPC.out.2.1]; omega), HNP.out]⟩
        rw [HE.out] at hv
        have HLEN : Aside0 ((dBytes tk hs P C).length ≤ 1000000) := ⟨by
          have h1 := dRows_len P C
          have := HPC.out
          have := HNP.out
          simp only [dBytes, List.length_append, dHead, lowN_length, List.length_cons, List.length_nil]
          omega⟩
        have KEY := Aside0.mk (pbytes_any gp gp (dBytes tk hs P C) v wr hv HLEN.out)
        have HBW := Aside0.mk H.out.2
        have GSW : Aside0 (gp ≤ wr.heap.size) := ⟨Nat.le_of_lt hv.lt⟩
        clear hv H HLEN HE
        generalize hdw : dBytes tk hs P C = dw at *
        have HDW := Aside0.mk hdw
        clear hdw
        go_wp2_with fail
        refine KEY.out.mono ?_
        rintro e wz ⟨vo, rfl, k1, k2⟩
        have K1 := Aside0.mk k1
        have K2 := Aside0.mk k2
        clear k1 k2 KEY
        go_wp2_with fail
        go_ret
        rw [HGD.out]
        try rw [HDW.out]
        exact ⟨vo, rfl, Kd.R_lower K1.out (Nat.le_trans (Nat.le_of_lt GD.out) GSW.out), H1.out.bel.trans ((HBW.out.trans (K2.out.mono GSW.out)).mono (Nat.le_of_lt GD.out))⟩
end Go.Proofs.Ytkhlalpkkmjfnaa

namespace Go.Proofs.Ytkhlalpkkmjfnaa
open Go.RowKit Go.Proofs.YtkhlalpkkmjfnaaW.PrintWords Go.Proofs.YtkhlalpkkmjfnaaW.PrintLast Go.Proofs.YtkhlalpkkmjfnaaW.PrintMore
set_option linter.unusedVariables false
set_option linter.unusedSimpArgs false

/-- What delta.Of tells, as a value and rows. -/
def OfR (w0 : Nat) (w' : World) (tk hs : Int) (P : List Int) (C : List S30) (v : Value) : Prop :=
  ∃ A c A2 c2, v = .agg #[.int .u32 tk, .int .u32 hs, .slice A P.length c, .slice A2 C.length c2] ∧ P.length ≤ c ∧ C.length ≤ c2 ∧
    (Kd.int .u8).R 5 w' w0 (fun _ => True) (.slice A P.length c) P ∧ k30.R 30 w' w0 (fun _ => True) (.slice A2 C.length c2) C
theorem OfR.cells {w0 : Nat} {w' : World} {tk hs : Int} {P : List Int} {C : List S30} {v : Value} (h : OfR w0 w' tk hs P C v) :
    ∃ A c A2 c2, v = .agg #[.int .u32 tk, .int .u32 hs, .slice A P.length c, .slice A2 C.length c2] ∧ P.length ≤ c ∧ C.length ≤ c2 ∧ (Kd.int .u8).C w' A P.length P ∧ k30.C w' A2 C.length C := by
  obtain ⟨A, c, A2, c2, rfl, h1, h2, h3, h4⟩ := h
  exact ⟨A, c, A2, c2, rfl, h1, h2, (Ru_C h3).2.2, (Ru_C h4).2.2⟩
theorem of_full (f : Nat → S30) (n t : Nat) (o tk : Int) (w : World) (hn : n ≤ 48) (ht : t < 18446744073709551616) (hf : ∀ k, k < n → U32 (f k).f1) :
    Calls Try.prog 13 #[.agg (boardC f n), .int .u64 t, .int .i64 o, .int .u32 tk] w fun e w' => ∃ v, e = .returned v ∧ OfR w.heap.size w' tk (sumB true (listF (viewF f n o) n)) (plL t n) (clL (viewF f n o) t n) v ∧ Below w.heap.size w w' := by
  refine (of_any f n t o tk w hn ht hf).mono ?_
  rintro e w' ⟨vP, vC, rfl, h1, h2, h3⟩
  obtain ⟨A, c, rfl, l1, _⟩ := Kd.R_reads h1
  obtain ⟨A2, c2, rfl, l2, _⟩ := Kd.R_reads h2
  exact ⟨_, rfl, ⟨A, c, A2, c2, rfl, l1, l2, h1, h2⟩, h3⟩
end Go.Proofs.Ytkhlalpkkmjfnaa

namespace Go.Proofs.Ytkhlalpkkmjfnaa
open Go.RowKit Go.Proofs.YtkhlalpkkmjfnaaW.PrintWords Go.Proofs.YtkhlalpkkmjfnaaW.PrintLast Go.Proofs.YtkhlalpkkmjfnaaW.PrintMore
set_option linter.unusedVariables false
set_option linter.unusedSimpArgs false

/-- A row of cells that the call has made. -/
theorem C_of_cells {w : World} {g : Nat} {L : List S30} (h : w.heap[g]? = some (.cells (flatC L).toArray 30 (0, 0))) (hm : L.length ≤ 1000000) : k30.C w (some ⟨g, 0, none⟩) L.length L := Rc.reads h hm
theorem add0' (ad : Addr) : ad.add 0 = ad := by cases ad; simp [Addr.add]
theorem has_zero : hasB 0 0 = false := by kernel_rfl
theorem ex_places : plL 2 2 = [1] := by decide
theorem ex_cells (f : Nat → S30) : clL f 2 2 = [f 1] := by
  have : touchL 2 2 = [1] := by decide
  unfold clL; rw [this]; rfl

set_option maxRecDepth 100000 in
set_option maxHeartbeats 4000000 in
theorem awake7_any (w : World) : Calls Try.prog 8 #[] w fun e w' => e = .returned (.bool true) ∧ Below w.heap.size w w' := by
  have hz := zero_board
  have HI := fun f m => Aside0.mk (board_info f m)
  have HO := fun f m => Aside0.mk (boardC_one f m)
  have KN := Aside0.mk (new_any (some ⟨w.heap.size, 0, none⟩) 2 2 [⟨7, 1⟩, ⟨8, 0⟩] _ (C_of_cells (L := [⟨7, 1⟩, ⟨8, 0⟩]) (blk_new w (.cells #[.int .i32 7, .int .u32 1, .int .i32 8, .int .u32 0] 30)) (by decide)) (by decide) (by decide))
  have H0 := Aside0.mk ((Hp.start w).call (below_alloc (Below.refl w.heap.size w) (.cells #[.int .i32 7, .int .u32 1, .int .i32 8, .int .u32 0] 30)))
  go_enter Try.func8, Try.ntmps8
  go_wp2_with fail
  refine KN.out.mono ?_
  rintro e w2 ⟨rfl, hb2⟩
  have H1 := Aside0.mk (H0.out.call hb2)
  clear hb2 KN H0
  obtain ⟨f, hf⟩ : ∃ f, fL [⟨7, 1⟩, ⟨8, 0⟩] = f := ⟨_, rfl⟩
  have HF : Aside0 (f 0 = ⟨7, 1⟩ ∧ f 1 = ⟨8, 0⟩) := ⟨by rw [← hf]; exact ⟨rfl, rfl⟩⟩
  rw [hf]
  clear hf
  have HZ := Aside0.mk (blk_new w2 (.cells (boardC (fun _ => z30) 0) 34))
  have H2 := Aside0.mk ((H1.out.alloc (.cells (boardC (fun _ => z30) 0) 34)).setRow (i := 0) rfl (boardC f 2))
  clear H1
  go_wp2_with (first | (refine wpList_load_row_g 34 (.tmp 1) rfl (w2.heap.size) rfl rfl 34 _ (0, 0) _ (H2.out.get (i := 0) rfl) Try.underlying34 rfl (HI _ _).out ?_) | (refine wpList_store_row rfl 34 (.tmp 1) (.tmp 9) rfl (w2.heap.size) (boardC f 2) rfl rfl 34 _ HZ.out (HI _ _).out (by rw [boardC_size, boardC_size]) (HO _ _).out ?_))
  have HU : Aside0 (∀ k, k < 2 → U32 (f k).f1) := ⟨fun k hk => by
    match k, hk with
    | 0, _ => rw [HF.out.1]; unfold U32; decide
    | 1, _ => rw [HF.out.2]; unfold U32; decide⟩
  have KO := fun X : World => Aside0.mk (of_full f 2 2 0 5 X (by decide) (by decide) HU.out)
  rw [ex_places, ex_cells] at KO
  have hv : viewF f 2 0 1 = ⟨0, 0⟩ := by unfold viewF; rw [HF.out.2]; rw [if_pos ⟨by decide, has_zero⟩]
  rw [hv] at KO
  clear hv
  have HHS : Aside0 (sumB true (listF (viewF f 2 0) 2) < 4294967296) := ⟨by unfold sumB sumN; omega⟩
  generalize sumB true (listF (viewF f 2 0) 2) = hs at *
  generalize (w2.alloc (.cells (boardC (fun _ => z30) 0) 34)).setRow w2.heap.size (boardC f 2) = w3 at *
  refine (KO _).out.mono ?_
  rintro e w4 ⟨v, rfl, hv, hb4⟩
  have H3 := Aside0.mk (H2.out.call hb4)
  obtain ⟨A, c, A2, c2, rfl, l1, l2, h3, h4⟩ := hv.cells
  have hb5 := below_alloc (Below.refl w4.heap.size w4) (.cells #[.int .u32 5, .int .u32 hs, .slice A 1 c, .slice A2 1 c2] 41)
  have H4 := Aside0.mk (H3.out.alloc (.cells #[.int .u32 5, .int .u32 hs, .slice A 1 c, .slice A2 1 c2] 41))
  have KB := Aside0.mk (dbytes_yes 5 hs A A2 1 c 1 c2 [1] [⟨0, 0⟩] _ (Kd.C_below h3 hb5) l1 (Kd.C_below h4 hb5) l2 (by decide) (by decide) HHS.out (by intro x hx; obtain rfl := List.mem_singleton.1 hx; unfold U32; decide))
  have e5 : ((5 : Nat) : Int) = 5 := rfl
  rw [e5] at KB
  clear e5
  have HD := Aside0.mk (And.intro (Kd.C_below h3 hb5) (Kd.C_below h4 hb5))
  clear hb4 hb5 hv l1 l2 h3 h4 KO HZ H2 HU H3
  go_wp2_with (first | (refine wpList_load_row_g 41 (.tmp 3) rfl (w4.heap.size) rfl rfl 41 _ (0, 0) _ (H4.out.get (i := 0) rfl) Try.underlying41 rfl (delta_info _ _ _ _) ?_))
  refine KB.out.mono ?_
  rintro e w5 ⟨vb, rfl, hvb, hb6⟩
  obtain ⟨Q, d, rfl, l3, _⟩ := Kd.R_reads hvb
  have hlen : (dBytes 5 hs [1] [⟨0, 0⟩]).length = 18 := by simp [dBytes, dHead, dRows, dCell, cellB, lowN_length]
  rw [hlen]
  have H5 := Aside0.mk (H4.out.call hb6)
  obtain ⟨adp, rfl, p0⟩ := int_at (Kd.C_below HD.out.1 hb6) 0 (by decide)
  obtain ⟨adc, rfl, q0, q1⟩ := cell_at25 (Kd.C_below HD.out.2 hb6) (j := 0) (by decide)
  rw [List.getElem_cons_zero, add0'] at p0
  rw [List.getElem_cons_zero, Nat.zero_mul, add0'] at q0
  have c0 := blk_cell (H5.out.get (i := 0) rfl) 0
  have c2 := blk_cell (H5.out.get (i := 0) rfl) 2
  have c3 := blk_cell (H5.out.get (i := 0) rfl) 3
  clear hvb l3 hlen hb6 KB HD H4 q1
  go_wp2_with fail
  go_ret
  exact ⟨rfl, H5.out.bel⟩
end Go.Proofs.Ytkhlalpkkmjfnaa

namespace Go.Proofs.Ytkhlalpkkmjfnaa
open Go.RowKit Go.Proofs.YtkhlalpkkmjfnaaW.PrintWords Go.Proofs.YtkhlalpkkmjfnaaW.PrintLast Go.Proofs.YtkhlalpkkmjfnaaW.PrintMore
set_option linter.unusedVariables false
set_option linter.unusedSimpArgs false

theorem same_l0 (x y : List Int) (hl : x.length = y.length) (hx : x.length ≤ 9223372036854775807) : ∀ (d k i : Nat), i + d = x.length → d < k →
    hoodwinkref01_Same.l0 k x y (x.length : Int) (i : Int) = some (decide (x.drop i = y.drop i))
  | 0, k, i, hi, hk => by
    obtain ⟨k, rfl⟩ : ∃ q, k = q + 1 := ⟨k - 1, by omega⟩
    simp only [hoodwinkref01_Same.l0]
    rw [if_neg (by omega), List.drop_of_length_le (by omega), List.drop_of_length_le (by omega)]
    simp
  | d + 1, k, i, hi, hk => by
    obtain ⟨k, rfl⟩ : ∃ q, k = q + 1 := ⟨k - 1, by omega⟩
    have ih := same_l0 x y hl hx d k (i + 1) (by omega) (by omega)
    have hix : i < x.length := by omega
    have hiy : i < y.length := by omega
    simp only [hoodwinkref01_Same.l0]
    rw [if_pos (by omega), if_pos (by omega), if_pos (by omega), if_pos (by omega), next64 (by omega), rd_getElem hix, rd_getElem hiy]
    have e : decide (x.drop i = y.drop i) = decide (x[i] = y[i] ∧ x.drop (i + 1) = y.drop (i + 1)) :=
      decide_eq_decide.2 (by rw [List.drop_eq_getElem_cons hix, List.drop_eq_getElem_cons hiy, List.cons.injEq])
    rw [e]
    by_cases h : x[i] = y[i]
    · rw [if_pos h, ih]; exact congrArg some (decide_eq_decide.2 ⟨fun q => ⟨h, q⟩, fun q => q.2⟩)
    · rw [if_neg h, decide_eq_false (fun q => h q.1)]
theorem same_f (x y : List Int) (hx : x.length ≤ 9223372036854775807) : hoodwinkref01_Same.f (x.length + 1) x y = some (decide (x = y)) := by
  unfold hoodwinkref01_Same.f
  by_cases h : x.length = y.length
  · rw [if_pos (by omega)]
    have := same_l0 x y h hx x.length (x.length + 1) 0 (by omega) (by omega)
    simpa using this
  · rw [if_neg (by omega)]
    have : x ≠ y := fun e => h (by rw [e])
    simp [this]
theorem same_any (A B : Option Addr) (n m c c' : Nat) (x y : List Int) (w : World) (hx : (Kd.int .u8).C w A n x) (hc : n ≤ c) (hy : (Kd.int .u8).C w B m y) (hc' : m ≤ c') :
    Calls Try.prog 12 #[.slice A n c, .slice B m c'] w fun e w' => e = .returned (.bool (decide (x = y))) ∧ Below w.heap.size w w' := by
  have hm := hx.2.1
  obtain rfl := hx.1
  obtain rfl := hy.1
  exact (hoodwinkref01_Same.calls (x.length + 1) A c x B c' y _ w hx hc hy hc' (same_f x y hm)).mono fun e w' ⟨h1, h2⟩ => ⟨h1, h2.below⟩

/-- Bytes that are told. -/
def BvC (w : World) (l : List Int) (v : Value) : Prop := ∃ A c, v = .slice A l.length c ∧ l.length ≤ c ∧ (Kd.int .u8).C w A l.length l
theorem BvC.below {w w' : World} {l : List Int} {v : Value} (h : BvC w l v) (hb : Below w.heap.size w w') : BvC w' l v := by
  obtain ⟨A, c, h1, h2, h3⟩ := h
  exact ⟨A, c, h1, h2, Kd.C_below h3 hb⟩
theorem BvC.of_R {w : World} {b : Nat} {ok : Nat → Prop} {l : List Int} {v : Value} (h : (Kd.int .u8).R 5 w b ok v l) : BvC w l v := by
  obtain ⟨A, c, h1, h2, h3⟩ := Kd.R_reads h
  exact ⟨A, c, h1, h2, h3⟩
/-- A delta that is told. -/
def DvC (w : World) (tk hs : Int) (P : List Int) (C : List S30) (v : Value) : Prop :=
  ∃ A c A2 c2, v = .agg #[.int .u32 tk, .int .u32 hs, .slice A P.length c, .slice A2 C.length c2] ∧ P.length ≤ c ∧ C.length ≤ c2 ∧ (Kd.int .u8).C w A P.length P ∧ k30.C w A2 C.length C
theorem DvC.below {w w' : World} {tk hs : Int} {P : List Int} {C : List S30} {v : Value} (h : DvC w tk hs P C v) (hb : Below w.heap.size w w') : DvC w' tk hs P C v := by
  obtain ⟨A, c, A2, c2, h1, h2, h3, h4, h5⟩ := h
  exact ⟨A, c, A2, c2, h1, h2, h3, Kd.C_below h4 hb, Kd.C_below h5 hb⟩
theorem same_told (a b : List Int) (x y : Value) (w : World) (hx : BvC w a x) (hy : BvC w b y) :
    Calls Try.prog 12 #[x, y] w fun e w' => e = .returned (.bool (decide (a = b))) ∧ Below w.heap.size w w' := by
  obtain ⟨A, c, rfl, h1, h2⟩ := hx
  obtain ⟨A2, c2, rfl, h3, h4⟩ := hy
  exact same_any A A2 _ _ c c2 a b w h2 h1 h4 h3
end Go.Proofs.Ytkhlalpkkmjfnaa

namespace Go.Proofs.Ytkhlalpkkmjfnaa
open Go.RowKit Go.Proofs.YtkhlalpkkmjfnaaW.PrintWords Go.Proofs.YtkhlalpkkmjfnaaW.PrintLast Go.Proofs.YtkhlalpkkmjfnaaW.PrintMore
set_option linter.unusedVariables false
set_option linter.unusedSimpArgs false

end Go.Proofs.Ytkhlalpkkmjfnaa

namespace Go.Proofs.Ytkhlalpkkmjfnaa
open Go.RowKit Go.Proofs.YtkhlalpkkmjfnaaW.PrintWords Go.Proofs.YtkhlalpkkmjfnaaW.PrintLast Go.Proofs.YtkhlalpkkmjfnaaW.PrintMore
set_option linter.unusedVariables false
set_option linter.unusedSimpArgs false

end Go.Proofs.Ytkhlalpkkmjfnaa

namespace Go.Proofs.Ytkhlalpkkmjfnaa
open Go.RowKit Go.Proofs.YtkhlalpkkmjfnaaW.PrintWords Go.Proofs.YtkhlalpkkmjfnaaW.PrintLast Go.Proofs.YtkhlalpkkmjfnaaW.PrintMore
set_option linter.unusedVariables false
set_option linter.unusedSimpArgs false

/-- What was told by Of, as a fact of a walk. -/
theorem Hp.ofR {B : Nat} {w0 W W1 : World} {L : List (Nat × Obj)} {F : List (World → Prop)} {tk hs : Int} {P : List Int} {C : List S30} {v : Value} (h : Hp B w0 W L F) (hb : Below W.heap.size W W1) (hr : OfR W.heap.size W1 tk hs P C v) : Hp B w0 W1 L ((fun X => OfR B X tk hs P C v) :: F) := by
  refine h.told hb (fun W' h0 hq => ?_)
  obtain ⟨A, c, A2, c2, e, h1, h2, h3, h4⟩ := hr
  refine ⟨A, c, A2, c2, e, h1, h2, ?_, ?_⟩
  · exact Kd.R_mono (Kd.R_lower (Kd.R_step (Kd.R_mono (Kd.R_bound h3) (fun k hk => (⟨hk.2.1, hk.2.2.1⟩ : W.heap.size ≤ k ∧ k < W1.heap.size))) (fun k hk hlt => hq k hk.1 hk.2)) h.le) (fun _ _ => trivial)
  · exact Kd.R_mono (Kd.R_lower (Kd.R_step (Kd.R_mono (Kd.R_bound h4) (fun k hk => (⟨hk.2.1, hk.2.2.1⟩ : W.heap.size ≤ k ∧ k < W1.heap.size))) (fun k hk hlt => hq k hk.1 hk.2)) h.le) (fun _ _ => trivial)
end Go.Proofs.Ytkhlalpkkmjfnaa

namespace Go.Proofs.Ytkhlalpkkmjfnaa
open Go.RowKit Go.Proofs.YtkhlalpkkmjfnaaW.PrintWords Go.Proofs.YtkhlalpkkmjfnaaW.PrintLast Go.Proofs.YtkhlalpkkmjfnaaW.PrintMore
set_option linter.unusedVariables false
set_option linter.unusedSimpArgs false

end Go.Proofs.Ytkhlalpkkmjfnaa

namespace Go.Proofs.Ytkhlalpkkmjfnaa
open Go.RowKit Go.Proofs.YtkhlalpkkmjfnaaW.PrintWords Go.Proofs.YtkhlalpkkmjfnaaW.PrintLast Go.Proofs.YtkhlalpkkmjfnaaW.PrintMore
set_option linter.unusedVariables false
set_option linter.unusedSimpArgs false

theorem cells7_l0 (L : List S30) (hL : L.length ≤ 1000000) : ∀ (d k j : Nat) (acc : List S89), L.length - j = d → d < k → j ≤ L.length → acc.length ≤ j → hoodwinklaw07_cells.l0 k acc L (L.length : Int) (j : Int) = some (acc ++ (L.drop j).map toR)
  | 0, k, j, acc, hd, hk, hj, ha => by
    obtain ⟨k, rfl⟩ : ∃ m, k = m + 1 := ⟨k - 1, by omega⟩
    simp only [hoodwinklaw07_cells.l0]
    rw [if_neg (by omega), List.drop_of_length_le (by omega)]; simp
  | d + 1, k, j, acc, hd, hk, hj, ha => by
    obtain ⟨k, rfl⟩ : ∃ m, k = m + 1 := ⟨k - 1, by omega⟩
    have hlt : j < L.length := by omega
    simp only [hoodwinklaw07_cells.l0]
    rw [if_pos (by omega), if_pos (by omega), if_pos (by omega), if_pos (by omega), wrap_succ (by omega), cells7_l0 L hL d k (j + 1) _ (by omega) (by omega) (by omega) (by simp; omega), List.drop_eq_getElem_cons hlt, rdT25_get hlt, List.append_assoc]
    rfl
theorem cells7_any (A : Option Addr) (n c : Nat) (L : List S30) (w : World) (hr : k30.C w A n L) (hc : n ≤ c) (hn : n ≤ 1000000) :
    Calls Try.prog 24 #[.slice A n c] w fun e w' => ∃ v, e = .returned v ∧ k89.R 89 w' w.heap.size (fun _ => True) v (L.map toR) ∧ Below w.heap.size w w' := by
  obtain rfl := hr.1
  exact hoodwinklaw07_cells.calls (L.length + 1) A c L _ w hr hc (by
    have := cells7_l0 L hn L.length (L.length + 1) 0 [] (by omega) (by omega) (by omega) (Nat.le_refl _)
    simpa [hoodwinklaw07_cells.f] using this)
/-- A delta as the document has it. -/
def DrC (w : World) (tk hs : Int) (P : List Int) (R : List S89) (v : Value) : Prop :=
  ∃ A c A2 c2, v = .agg #[.int .u32 tk, .int .u32 hs, .slice A P.length c, .slice A2 R.length c2] ∧ P.length ≤ c ∧ R.length ≤ c2 ∧ (Kd.int .u8).C w A P.length P ∧ k89.C w A2 R.length R
theorem DrC.below {w w' : World} {tk hs : Int} {P : List Int} {R : List S89} {v : Value} (h : DrC w tk hs P R v) (hb : Below w.heap.size w w') : DrC w' tk hs P R v := by
  obtain ⟨A, c, A2, c2, h1, h2, h3, h4, h5⟩ := h
  exact ⟨A, c, A2, c2, h1, h2, h3, Kd.C_below h4 hb, Kd.C_below h5 hb⟩
theorem rdelta_info (a b c d : Value) : (Try.prog.info? 58).map (·.size) = some (#[a, b, c, d] : Array Value).size := by kernel_rfl

set_option maxRecDepth 100000 in
set_option maxHeartbeats 8000000 in
theorem own7_any (tk hs : Int) (P : List Int) (C : List S30) (v : Value) (w00 : World) (hv : DvC w00 tk hs P C v) (hn : C.length ≤ 1000000) :
    Calls Try.prog 22 #[v] w00 fun e w' => ∃ v', e = .returned v' ∧ DrC w' tk hs P (C.map toR) v' ∧ Below w00.heap.size w00 w' := by
  obtain ⟨A, c, A2, c2, rfl, h2, h3, h4, h5⟩ := hv
  have HC := Aside0.mk (And.intro h2 (And.intro h3 hn))
  have HF : Aside0 (∀ z, Below w00.heap.size w00 z → (Kd.int .u8).C z A P.length P ∧ k30.C z A2 C.length C) := ⟨fun z hb => ⟨Kd.C_below h4 hb, Kd.C_below h5 hb⟩⟩
  have H0 := Aside0.mk (((Hp.start w00).alloc (.cells #[.int .u32 tk, .int .u32 hs, .slice A P.length c, .slice A2 C.length c2] 41)).allocAt (.cells #[.int .u32 0, .int .u32 0, .slice none 0 0, .slice none 0 0] 58) (w00.heap.size + 1) (by simp))
  clear h2 h3 h4 h5 hn
  obtain ⟨m, hm⟩ : ∃ m, C.length = m := ⟨_, rfl⟩
  obtain ⟨n, hn⟩ : ∃ n, P.length = n := ⟨_, rfl⟩
  rw [hm, hn] at HC HF H0
  rw [hm, hn]
  have HMN := Aside0.mk (And.intro hm hn)
  clear hm hn
  go_enter Try.func22, Try.ntmps22
  go_wp2_with fail
  generalize (w00.alloc (.cells #[.int .u32 tk, .int .u32 hs, .slice A n c, .slice A2 m c2] 41)).alloc (.cells #[.int .u32 0, .int .u32 0, .slice none 0 0, .slice none 0 0] 58) = W at *
  obtain ⟨gd, hgd⟩ : ∃ gd, w00.heap.size = gd := ⟨_, rfl⟩
  rw [hgd] at H0 HF
  rw [hgd]
  have HGD := Aside0.mk hgd
  clear hgd
  refine regionS (W := W)
    [fun _ v => v = .pointer (some ⟨gd, 0, none⟩),
     fun _ v => v = .int .u32 tk,
     fun _ v => v = .pointer (some ⟨gd, 1, none⟩),
     fun _ v => v = .int .u32 hs,
     fun _ v => v = .pointer (some ⟨gd, 2, none⟩),
     fun _ v => v = .slice A n c,
     fun _ v => v = .pointer (some ⟨gd, 3, none⟩),
     fun _ v => v = .slice A2 m c2,
     fun _ _ => True,
     fun _ _ => True,
     fun _ _ => True]
    [8, 9, 10]
    (fun t => match t with | 0 => fun (rs : List Value) (w : World) => Hp gd w00 w [(gd + 1, .cells #[.int .u32 0, .int .u32 0, .slice none 0 0, .slice none 0 0] 58 (0, 0)), (gd, .cells #[.int .u32 tk, .int .u32 hs, .slice A n c, .slice A2 m c2] 41 (0, 0))] [] | 1 => fun (rs : List Value) (w : World) => Hp gd w00 w [(gd + 1, .cells #[.int .u32 0, .int .u32 0, .slice none 0 0, .slice none 0 0] 58 (0, 0)), (gd, .cells #[.int .u32 tk, .int .u32 hs, .slice A n c, .slice A2 m c2] 41 (0, 0))] [fun X => k89.R 89 X gd (fun _ => True) (rs.getD 0 undef) (C.map toR)] | 2 => fun (rs : List Value) (w : World) => ∃ A3 c3, (rs.getD 1 undef) = .agg #[.int .u32 tk, .int .u32 hs, .slice A n c, .slice A3 m c3] ∧ Hp gd w00 w [(gd + 1, .cells #[.int .u32 0, .int .u32 0, .slice none 0 0, .slice none 0 0] 58 (0, 0)), (gd, .cells #[.int .u32 tk, .int .u32 hs, .slice A n c, .slice A2 m c2] 41 (0, 0))] [fun X => k89.R 89 X gd (fun _ => True) (.slice A3 m c3) (C.map toR)] | 3 => fun (rs : List Value) (w : World) => ∃ A3 c3, Hp gd w00 w [(gd + 1, .cells #[.int .u32 tk, .int .u32 hs, .slice A n c, .slice A3 m c3] 58 (0, 0)), (gd, .cells #[.int .u32 tk, .int .u32 hs, .slice A n c, .slice A2 m c2] 41 (0, 0))] [fun X => k89.R 89 X gd (fun _ => True) (.slice A3 m c3) (C.map toR)] | _ => fun _ _ => False)
    (fun _ _ _ => True) (fun w => Below gd w00 w ∧ gd ≤ w.heap.size ∧ w.heap[gd]? = some (.cells #[.int .u32 tk, .int .u32 hs, .slice A n c, .slice A2 m c2] 41 (0, 0)))
    (fun j =>  none)
    [(0, some 3), (1, some 4), (2, some 5), (3, some 6), (4, some 7), (5, some 8), (6, some 9), (7, some 10), (8, some 11), (9, some 12), (10, none)]
    []
    (by kernel_rfl) (by kernel_rfl) (by kernel_rfl) (by kernel_rfl) (by kernel_rfl) ?z1_1c ?z1_1i ?z1_1b ?z1_1d ?z1_1g ⟨?z1_1t0, ?z1_1t1, ?z1_1t2, ?z1_1t3, ?z1_1t4, ?z1_1t5, ?z1_1t6, ?z1_1t7, ?z1_1t8, ?z1_1t9, ?z1_1t10, trivial⟩ ⟨?z1_1o0, ?z1_1o1, ?z1_1o2, ?z1_1o3, ?z1_1o4, ?z1_1o5, ?z1_1o6, ?z1_1o7, ?z1_1o8, ?z1_1o9, ?z1_1o10, trivial⟩ ?z1_1e
  case z1_1c => exact ⟨H0.out.drew.bel, H0.out.drew.le, H0.out.drew.get (i := 1) rfl⟩
  case z1_1i => exact H0.out.drew
  case z1_1b => intro w w' hb h; exact ⟨h.1.trans (hb.mono h.2.1), Nat.le_trans h.2.1 hb.size, blk_below h.2.2 hb⟩
  case z1_1d =>
    intro t rs w w' hb h
    match t, h with
    | 0, h => (replace h : Hp gd w00 w [(gd + 1, .cells #[.int .u32 0, .int .u32 0, .slice none 0 0, .slice none 0 0] 58 (0, 0)), (gd, .cells #[.int .u32 tk, .int .u32 hs, .slice A n c, .slice A2 m c2] 41 (0, 0))] [] := h); show Hp gd w00 w' [(gd + 1, .cells #[.int .u32 0, .int .u32 0, .slice none 0 0, .slice none 0 0] 58 (0, 0)), (gd, .cells #[.int .u32 tk, .int .u32 hs, .slice A n c, .slice A2 m c2] 41 (0, 0))] []; first | exact h.call hb | (obtain ⟨A3, c3, h1, h⟩ := h; exact ⟨A3, c3, h1, h.call hb⟩) | (obtain ⟨A3, c3, h⟩ := h; exact ⟨A3, c3, h.call hb⟩)
    | 1, h => (replace h : Hp gd w00 w [(gd + 1, .cells #[.int .u32 0, .int .u32 0, .slice none 0 0, .slice none 0 0] 58 (0, 0)), (gd, .cells #[.int .u32 tk, .int .u32 hs, .slice A n c, .slice A2 m c2] 41 (0, 0))] [fun X => k89.R 89 X gd (fun _ => True) (rs.getD 0 undef) (C.map toR)] := h); show Hp gd w00 w' [(gd + 1, .cells #[.int .u32 0, .int .u32 0, .slice none 0 0, .slice none 0 0] 58 (0, 0)), (gd, .cells #[.int .u32 tk, .int .u32 hs, .slice A n c, .slice A2 m c2] 41 (0, 0))] [fun X => k89.R 89 X gd (fun _ => True) (rs.getD 0 undef) (C.map toR)]; first | exact h.call hb | (obtain ⟨A3, c3, h1, h⟩ := h; exact ⟨A3, c3, h1, h.call hb⟩) | (obtain ⟨A3, c3, h⟩ := h; exact ⟨A3, c3, h.call hb⟩)
    | 2, h => (replace h : ∃ A3 c3, (rs.getD 1 undef) = .agg #[.int .u32 tk, .int .u32 hs, .slice A n c, .slice A3 m c3] ∧ Hp gd w00 w [(gd + 1, .cells #[.int .u32 0, .int .u32 0, .slice none 0 0, .slice none 0 0] 58 (0, 0)), (gd, .cells #[.int .u32 tk, .int .u32 hs, .slice A n c, .slice A2 m c2] 41 (0, 0))] [fun X => k89.R 89 X gd (fun _ => True) (.slice A3 m c3) (C.map toR)] := h); show ∃ A3 c3, (rs.getD 1 undef) = .agg #[.int .u32 tk, .int .u32 hs, .slice A n c, .slice A3 m c3] ∧ Hp gd w00 w' [(gd + 1, .cells #[.int .u32 0, .int .u32 0, .slice none 0 0, .slice none 0 0] 58 (0, 0)), (gd, .cells #[.int .u32 tk, .int .u32 hs, .slice A n c, .slice A2 m c2] 41 (0, 0))] [fun X => k89.R 89 X gd (fun _ => True) (.slice A3 m c3) (C.map toR)]; first | exact h.call hb | (obtain ⟨A3, c3, h1, h⟩ := h; exact ⟨A3, c3, h1, h.call hb⟩) | (obtain ⟨A3, c3, h⟩ := h; exact ⟨A3, c3, h.call hb⟩)
    | 3, h => (replace h : ∃ A3 c3, Hp gd w00 w [(gd + 1, .cells #[.int .u32 tk, .int .u32 hs, .slice A n c, .slice A3 m c3] 58 (0, 0)), (gd, .cells #[.int .u32 tk, .int .u32 hs, .slice A n c, .slice A2 m c2] 41 (0, 0))] [fun X => k89.R 89 X gd (fun _ => True) (.slice A3 m c3) (C.map toR)] := h); show ∃ A3 c3, Hp gd w00 w' [(gd + 1, .cells #[.int .u32 tk, .int .u32 hs, .slice A n c, .slice A3 m c3] 58 (0, 0)), (gd, .cells #[.int .u32 tk, .int .u32 hs, .slice A n c, .slice A2 m c2] 41 (0, 0))] [fun X => k89.R 89 X gd (fun _ => True) (.slice A3 m c3) (C.map toR)]; first | exact h.call hb | (obtain ⟨A3, c3, h1, h⟩ := h; exact ⟨A3, c3, h1, h.call hb⟩) | (obtain ⟨A3, c3, h⟩ := h; exact ⟨A3, c3, h.call hb⟩)
    | _ + 4, h => exact h.elim
  case z1_1g =>
    intro j hj; cases hj
  case z1_1t0 => exact StabS.const _ _ _ _
  case z1_1t1 => exact StabS.const _ _ _ _
  case z1_1t2 => exact StabS.const _ _ _ _
  case z1_1t3 => exact StabS.const _ _ _ _
  case z1_1t4 => exact StabS.const _ _ _ _
  case z1_1t5 => exact StabS.const _ _ _ _
  case z1_1t6 => exact StabS.const _ _ _ _
  case z1_1t7 => exact StabS.const _ _ _ _
  case z1_1t8 => exact StabS.const _ _ _ _
  case z1_1t9 => exact StabS.const _ _ _ _
  case z1_1t10 => exact StabS.const _ _ _ _
  case z1_1o0 =>
    intro vs w t hC ht1 ht2 hS hV
    rw [if_pos (by kernel_rfl)]
    generalize hρ : rho _ _ _ vs = ρ
    have e1 : ρ (.tmp 1) = .pointer (some ⟨gd, 0, none⟩) := by rw [← hρ]; kernel_rfl
    clear hρ hV
    refine runs_val (v := .pointer (some ⟨gd, 0, none⟩)) (w' := w) ?_ ⟨Below.refl _ _, rfl⟩
    clear ht1 ht2 hS hC
    go_simp <;> (first | exact IntWalk.u64_in _ (by omega) | exact IntWalk.u32_in _ (by omega) | exact IntWalk.u16_in _ (by omega) | exact IntWalk.u8_in _ (by omega) | exact IntWalk.i64_in _ (by omega) | skip)
  case z1_1o1 =>
    intro vs w t hC ht1 ht2 hS hV
    rw [if_pos (by kernel_rfl)]
    generalize hρ : rho _ _ _ vs = ρ
    have d3 : (vs 0) = .pointer (some ⟨gd, 0, none⟩) := hV 0 (by kernel_rfl)
    have e3 : ρ (.tmp 3) = vs 0 := by rw [← hρ]; kernel_rfl
    rw [d3] at e3; clear d3
    clear hρ hV
    have c0 := blk_cell hC.2.2 0
    refine runs_val (v := .int .u32 tk) (w' := w) ?_ ⟨Below.refl _ _, rfl⟩
    clear ht1 ht2 hS hC
    go_simp
  case z1_1o2 =>
    intro vs w t hC ht1 ht2 hS hV
    rw [if_pos (by kernel_rfl)]
    generalize hρ : rho _ _ _ vs = ρ
    have e1 : ρ (.tmp 1) = .pointer (some ⟨gd, 0, none⟩) := by rw [← hρ]; kernel_rfl
    clear hρ hV
    refine runs_val (v := .pointer (some ⟨gd, 1, none⟩)) (w' := w) ?_ ⟨Below.refl _ _, rfl⟩
    clear ht1 ht2 hS hC
    go_simp <;> (first | exact IntWalk.u64_in _ (by omega) | exact IntWalk.u32_in _ (by omega) | exact IntWalk.u16_in _ (by omega) | exact IntWalk.u8_in _ (by omega) | exact IntWalk.i64_in _ (by omega) | skip)
  case z1_1o3 =>
    intro vs w t hC ht1 ht2 hS hV
    rw [if_pos (by kernel_rfl)]
    generalize hρ : rho _ _ _ vs = ρ
    have d5 : (vs 2) = .pointer (some ⟨gd, 1, none⟩) := hV 2 (by kernel_rfl)
    have e5 : ρ (.tmp 5) = vs 2 := by rw [← hρ]; kernel_rfl
    rw [d5] at e5; clear d5
    clear hρ hV
    have c0 := blk_cell hC.2.2 1
    refine runs_val (v := .int .u32 hs) (w' := w) ?_ ⟨Below.refl _ _, rfl⟩
    clear ht1 ht2 hS hC
    go_simp
  case z1_1o4 =>
    intro vs w t hC ht1 ht2 hS hV
    rw [if_pos (by kernel_rfl)]
    generalize hρ : rho _ _ _ vs = ρ
    have e1 : ρ (.tmp 1) = .pointer (some ⟨gd, 0, none⟩) := by rw [← hρ]; kernel_rfl
    clear hρ hV
    refine runs_val (v := .pointer (some ⟨gd, 2, none⟩)) (w' := w) ?_ ⟨Below.refl _ _, rfl⟩
    clear ht1 ht2 hS hC
    go_simp <;> (first | exact IntWalk.u64_in _ (by omega) | exact IntWalk.u32_in _ (by omega) | exact IntWalk.u16_in _ (by omega) | exact IntWalk.u8_in _ (by omega) | exact IntWalk.i64_in _ (by omega) | skip)
  case z1_1o5 =>
    intro vs w t hC ht1 ht2 hS hV
    rw [if_pos (by kernel_rfl)]
    generalize hρ : rho _ _ _ vs = ρ
    have d7 : (vs 4) = .pointer (some ⟨gd, 2, none⟩) := hV 4 (by kernel_rfl)
    have e7 : ρ (.tmp 7) = vs 4 := by rw [← hρ]; kernel_rfl
    rw [d7] at e7; clear d7
    clear hρ hV
    have c0 := blk_cell hC.2.2 2
    refine runs_val (v := .slice A n c) (w' := w) ?_ ⟨Below.refl _ _, rfl⟩
    clear ht1 ht2 hS hC
    go_simp
  case z1_1o6 =>
    intro vs w t hC ht1 ht2 hS hV
    rw [if_pos (by kernel_rfl)]
    generalize hρ : rho _ _ _ vs = ρ
    have e1 : ρ (.tmp 1) = .pointer (some ⟨gd, 0, none⟩) := by rw [← hρ]; kernel_rfl
    clear hρ hV
    refine runs_val (v := .pointer (some ⟨gd, 3, none⟩)) (w' := w) ?_ ⟨Below.refl _ _, rfl⟩
    clear ht1 ht2 hS hC
    go_simp <;> (first | exact IntWalk.u64_in _ (by omega) | exact IntWalk.u32_in _ (by omega) | exact IntWalk.u16_in _ (by omega) | exact IntWalk.u8_in _ (by omega) | exact IntWalk.i64_in _ (by omega) | skip)
  case z1_1o7 =>
    intro vs w t hC ht1 ht2 hS hV
    rw [if_pos (by kernel_rfl)]
    generalize hρ : rho _ _ _ vs = ρ
    have d9 : (vs 6) = .pointer (some ⟨gd, 3, none⟩) := hV 6 (by kernel_rfl)
    have e9 : ρ (.tmp 9) = vs 6 := by rw [← hρ]; kernel_rfl
    rw [d9] at e9; clear d9
    clear hρ hV
    have c0 := blk_cell hC.2.2 3
    refine runs_val (v := .slice A2 m c2) (w' := w) ?_ ⟨Below.refl _ _, rfl⟩
    clear ht1 ht2 hS hC
    go_simp
  case z1_1o8 =>
    intro vs w hC hS hV
    replace hS : Hp gd w00 w [(gd + 1, .cells #[.int .u32 0, .int .u32 0, .slice none 0 0, .slice none 0 0] 58 (0, 0)), (gd, .cells #[.int .u32 tk, .int .u32 hs, .slice A n c, .slice A2 m c2] 41 (0, 0))] [] := hS
    rw [if_pos (by kernel_rfl)]
    generalize hρ : rho _ _ _ vs = ρ
    have d10 : (vs 7) = .slice A2 m c2 := hV 7 (by kernel_rfl)
    have e10 : ρ (.tmp 10) = vs 7 := by rw [← hρ]; kernel_rfl
    rw [d10] at e10; clear d10
    have ef24 : ρ (.func 24) = .func (.func 24) #[] #[] := by rw [← hρ]; rfl
    clear hρ hV
    refine runs_call (f := 24) (args := #[.slice A2 m c2]) (w' := w) ?_ ?_
    · go_simp
    · refine (cells7_any A2 m c2 C w (HF.out w hC.1).2 HC.out.2.1 HC.out.2.2).mono ?_
      rintro e w5 ⟨v, rfl, hv, hb5⟩
      exact ⟨_, rfl, ⟨hC.1.trans (hb5.mono hC.2.1), Nat.le_trans hC.2.1 hb5.size, blk_below hC.2.2 hb5⟩, trivial, trivial, hS.row hb5 hv⟩
  case z1_1o9 =>
    intro vs w hC hS hV
    replace hS : Hp gd w00 w [(gd + 1, .cells #[.int .u32 0, .int .u32 0, .slice none 0 0, .slice none 0 0] 58 (0, 0)), (gd, .cells #[.int .u32 tk, .int .u32 hs, .slice A n c, .slice A2 m c2] 41 (0, 0))] [fun X => k89.R 89 X gd (fun _ => True) (vs 8) (C.map toR)] := hS
    rw [if_pos (by kernel_rfl)]
    generalize hρ : rho _ _ _ vs = ρ
    have d4 : (vs 1) = .int .u32 tk := hV 1 (by kernel_rfl)
    have e4 : ρ (.tmp 4) = vs 1 := by rw [← hρ]; kernel_rfl
    rw [d4] at e4; clear d4
    have d6 : (vs 3) = .int .u32 hs := hV 3 (by kernel_rfl)
    have e6 : ρ (.tmp 6) = vs 3 := by rw [← hρ]; kernel_rfl
    rw [d6] at e6; clear d6
    have d8 : (vs 5) = .slice A n c := hV 5 (by kernel_rfl)
    have e8 : ρ (.tmp 8) = vs 5 := by rw [← hρ]; kernel_rfl
    rw [d8] at e8; clear d8
    have d11 : (fun (w : World) (v : Value) => True) w (vs 8) := hV 8 (by kernel_rfl)
    have e11 : ρ (.tmp 11) = vs 8 := by rw [← hρ]; kernel_rfl
    clear hρ hV
    obtain ⟨A3, c3, e3⟩ := Kd.R_slice (hS.fact (i := 0) rfl)
    rw [List.length_map, HMN.out.1] at e3
    rw [e3] at hS e11
    refine runs_val (v := .agg #[.int .u32 tk, .int .u32 hs, .slice A n c, .slice A3 m c3]) (w' := w) ?_ ⟨hC, trivial, trivial, ⟨A3, c3, rfl, hS⟩⟩
    clear hS hC
    go_simp
  case z1_1o10 =>
    intro vs w hC hS hV
    replace hS : ∃ A3 c3, (vs 9) = .agg #[.int .u32 tk, .int .u32 hs, .slice A n c, .slice A3 m c3] ∧ Hp gd w00 w [(gd + 1, .cells #[.int .u32 0, .int .u32 0, .slice none 0 0, .slice none 0 0] 58 (0, 0)), (gd, .cells #[.int .u32 tk, .int .u32 hs, .slice A n c, .slice A2 m c2] 41 (0, 0))] [fun X => k89.R 89 X gd (fun _ => True) (.slice A3 m c3) (C.map toR)] := hS
    rw [if_pos (by kernel_rfl)]
    generalize hρ : rho _ _ _ vs = ρ
    have e2 : ρ (.tmp 2) = .pointer (some ⟨gd + 1, 0, none⟩) := by rw [← hρ]; kernel_rfl
    have d12 : (fun (w : World) (v : Value) => True) w (vs 9) := hV 9 (by kernel_rfl)
    have e12 : ρ (.tmp 12) = vs 9 := by rw [← hρ]; kernel_rfl
    clear hρ hV
    obtain ⟨A3, c3, e3, hS⟩ := hS
    rw [e3] at e12
    have hS2 := hS.setRow (i := 0) rfl #[.int .u32 tk, .int .u32 hs, .slice A n c, .slice A3 m c3]
    exact runs_store_row 58 (.tmp 2) (.tmp 12) rfl (gd + 1) #[.int .u32 tk, .int .u32 hs, .slice A n c, .slice A3 m c3] e2 e12 58 _ (hS.get (i := 0) rfl) (rdelta_info _ _ _ _) rfl (by simp [Value.oneCell']) ⟨⟨hS2.bel, hS2.le, hS2.get (i := 1) rfl⟩, trivial, trivial, ⟨A3, c3, hS2⟩⟩
  case z1_1e =>
    intro vs W2 hC hS hV
    replace hS : (fun (w : World) => ∃ A3 c3, Hp gd w00 w [(gd + 1, .cells #[.int .u32 tk, .int .u32 hs, .slice A n c, .slice A3 m c3] 58 (0, 0)), (gd, .cells #[.int .u32 tk, .int .u32 hs, .slice A n c, .slice A2 m c2] 41 (0, 0))] [fun X => k89.R 89 X gd (fun _ => True) (.slice A3 m c3) (C.map toR)]) W2 := hS
    have d3 : (vs 0) = .pointer (some ⟨gd, 0, none⟩) := hV 0 (Nat.le_of_ble_eq_true rfl)
    have d4 : (vs 1) = .int .u32 tk := hV 1 (Nat.le_of_ble_eq_true rfl)
    have d5 : (vs 2) = .pointer (some ⟨gd, 1, none⟩) := hV 2 (Nat.le_of_ble_eq_true rfl)
    have d6 : (vs 3) = .int .u32 hs := hV 3 (Nat.le_of_ble_eq_true rfl)
    have d7 : (vs 4) = .pointer (some ⟨gd, 2, none⟩) := hV 4 (Nat.le_of_ble_eq_true rfl)
    have d8 : (vs 5) = .slice A n c := hV 5 (Nat.le_of_ble_eq_true rfl)
    have d9 : (vs 6) = .pointer (some ⟨gd, 3, none⟩) := hV 6 (Nat.le_of_ble_eq_true rfl)
    have d10 : (vs 7) = .slice A2 m c2 := hV 7 (Nat.le_of_ble_eq_true rfl)
    have d11 : (fun (w : World) (v : Value) => True) W2 (vs 8) := hV 8 (Nat.le_of_ble_eq_true rfl)
    have d12 : (fun (w : World) (v : Value) => True) W2 (vs 9) := hV 9 (Nat.le_of_ble_eq_true rfl)
    clear hV
    simp only [putAll]
    rw [d3, d4, d5, d6, d7, d8, d9, d10]
    clear d3 d4 d5 d6 d7 d8 d9 d10
    generalize vs 8 = v11 at *
    generalize vs 9 = v12 at *
    generalize vs 10 = vN10
    clear vs
    simp only [Act.put, List.setIfInBounds_toArray, List.set_cons_zero, List.set_cons_succ]
    obtain ⟨A3, c3, hS⟩ := hS
    have H3 := Aside0.mk hS
    clear hS hC d11 d12
    go_wp2_with fail
    refine bodyPost_ret (results_cell_row rfl _ _ (gd + 1) _ #[.int .u32 tk, .int .u32 hs, .slice A n c, .slice A3 m c3] (0, 0) _ rfl (H3.out.get (i := 0) rfl) Try.underlying58 rfl (rdelta_info _ _ _ _)) rfl ?_
    rw [HGD.out]
    have k1 := Ru_C (H3.out.fact (i := 0) rfl)
    have k2 := (HF.out _ H3.out.bel).1
    refine ⟨_, rfl, ⟨A, c, A3, c3, ?_, ?_, ?_, ?_, ?_⟩, H3.out.bel⟩
    · rw [List.length_map, HMN.out.1, HMN.out.2]
    · rw [HMN.out.2]; exact HC.out.1
    · rw [List.length_map, HMN.out.1]; exact k1.2.1
    · rw [HMN.out.2]; exact k2
    · rw [List.length_map, HMN.out.1]; exact k1.2.2

theorem sameL_refl' (x : List S89) : sameL x x = true := (sameL_iff x x).2 rfl
set_option maxRecDepth 100000 in
set_option maxHeartbeats 8000000 in
theorem rsame7_any (tk hs : Int) (P : List Int) (R : List S89) (v u : Value) (w00 : World) (hv : DrC w00 tk hs P R v) (hu : DrC w00 tk hs P R u) (hn : R.length ≤ 1000000) :
    Calls Try.prog 21 #[v, u] w00 fun e w' => e = .returned (.bool true) ∧ Below w00.heap.size w00 w' := by
  obtain ⟨A, c, A2, c2, rfl, h2, h3, h4, h5⟩ := hv
  obtain ⟨B, d, B2, d2, rfl, k2, k3, k4, k5⟩ := hu
  have HC := Aside0.mk (And.intro h2 (And.intro h3 (And.intro k2 k3)))
  have HN := Aside0.mk hn
  have HF : Aside0 (∀ z, Below w00.heap.size w00 z → (Kd.int .u8).C z A P.length P ∧ k89.C z A2 R.length R ∧ (Kd.int .u8).C z B P.length P ∧ k89.C z B2 R.length R) := ⟨fun z hb => ⟨Kd.C_below h4 hb, Kd.C_below h5 hb, Kd.C_below k4 hb, Kd.C_below k5 hb⟩⟩
  have H0 := Aside0.mk (((Hp.start w00).alloc (.cells #[.int .u32 tk, .int .u32 hs, .slice A P.length c, .slice A2 R.length c2] 58)).allocAt (.cells #[.int .u32 tk, .int .u32 hs, .slice B P.length d, .slice B2 R.length d2] 58) (w00.heap.size + 1) (by simp))
  clear h2 h3 h4 h5 k2 k3 k4 k5 hn
  generalize P.length = n at *
  generalize R.length = m at *
  go_enter Try.func21, Try.ntmps21
  go_upto_region 1 with fail
  generalize (w00.alloc (.cells #[.int .u32 tk, .int .u32 hs, .slice A n c, .slice A2 m c2] 58)).alloc (.cells #[.int .u32 tk, .int .u32 hs, .slice B n d, .slice B2 m d2] 58) = W at *
  obtain ⟨gd, hgd⟩ : ∃ gd, w00.heap.size = gd := ⟨_, rfl⟩
  rw [hgd] at H0 HF
  rw [hgd]
  have HGD := Aside0.mk hgd
  clear hgd
  have a0 := blk_cell (H0.out.get (i := 1) rfl) 0
  have a1 := blk_cell (H0.out.get (i := 1) rfl) 1
  have a2 := blk_cell (H0.out.get (i := 1) rfl) 2
  have b0 := blk_cell (H0.out.get (i := 0) rfl) 0
  have b1 := blk_cell (H0.out.get (i := 0) rfl) 1
  have b2 := blk_cell (H0.out.get (i := 0) rfl) 2
  go_wp2_with fail
  obtain ⟨f1, f2, f3, f4⟩ := HF.out W H0.out.bel
  have KS := Aside0.mk (same_any A B n n c d P P W f1 HC.out.1 f3 HC.out.2.2.1)
  refine KS.out.mono ?_
  rintro e w1 ⟨rfl, hb1⟩
  have H1 := Aside0.mk (H0.out.call hb1)
  clear a0 a1 a2 b0 b1 b2 f1 f2 f3 f4 KS hb1 H0
  have a3 := blk_cell (H1.out.get (i := 1) rfl) 3
  have b3 := blk_cell (H1.out.get (i := 0) rfl) 3
  have ht : decide (P = P) = true := by simp
  rw [ht]
  clear ht
  go_wp2_with fail
  obtain ⟨f1, f2, f3, f4⟩ := HF.out w1 H1.out.bel
  have hm := f2.1
  have KC := Aside0.mk (csame_any A2 B2 m m c2 d2 R R w1 f2 f4 (by have := HN.out; omega) (by have := HN.out; omega))
  rw [sameL_refl'] at KC
  refine KC.out.mono ?_
  rintro e w2 ⟨rfl, hd⟩
  have H2 := Aside0.mk (H1.out.call hd.below)
  clear f1 f2 f3 f4 hm KC hd a3 b3 H1
  go_wp2_with fail
  go_ret
  rw [HGD.out]
  exact ⟨rfl, H2.out.bel⟩
end Go.Proofs.Ytkhlalpkkmjfnaa

namespace Go.Proofs.Ytkhlalpkkmjfnaa
open Go.RowKit Go.Proofs.YtkhlalpkkmjfnaaW.PrintWords Go.Proofs.YtkhlalpkkmjfnaaW.PrintLast Go.Proofs.YtkhlalpkkmjfnaaW.PrintMore
set_option linter.unusedVariables false
set_option linter.unusedSimpArgs false

theorem C_one_cellR {w : World} {g : Nat} {x : S89} (h : w.heap[g]? = some (.cells #[.int .i32 x.f0, .int .u32 x.f1] 89 (0, 0))) : ReadsRow (fun (y : S89) cs => cs = [.int .i32 y.f0, .int .u32 y.f1]) 2 w (some ⟨g, 0, none⟩) 1 [x] := by
  refine ⟨rfl, by decide, fun _ => ⟨_, rfl, fun j p hj => ?_⟩⟩
  have hj0 : j = 0 := by
    have := (List.getElem?_eq_some_iff.1 hj).1
    simp at this; exact this
  subst hj0
  obtain rfl : x = p := by simpa using hj
  refine ⟨[.int .i32 x.f0, .int .u32 x.f1], rfl, rfl, fun i u hu => ?_⟩
  show w.cell? ((⟨g, 0, none⟩ : Addr).add (0 * 2 + i)) = _
  rw [add_plain, Nat.zero_mul, Nat.zero_add]
  match i, hu with
  | 0, hu => exact (blk_cell h 0).trans hu
  | 1, hu => exact (blk_cell h 1).trans hu
  | i + 2, hu => simp at hu
theorem rcell_full : (Try.prog.info? 89).map (fun i => (i.zero, i.size, i.bytes)) = some (some (.agg #[.int .i32 0, .int .u32 0]), 2, 8) := by kernel_rfl
end Go.Proofs.Ytkhlalpkkmjfnaa

namespace Go.Proofs.Ytkhlalpkkmjfnaa
open Go.RowKit Go.Proofs.YtkhlalpkkmjfnaaW.PrintWords Go.Proofs.YtkhlalpkkmjfnaaW.PrintLast Go.Proofs.YtkhlalpkkmjfnaaW.PrintMore
set_option linter.unusedVariables false

/-- A fill: the operation that makes the variable, the store, the operation that told the value. -/
abbrev Fill := Nat × Nat × Nat
structure FillAt (ops : Array Oper) (fl : List Fill) (f : Fill) : Prop where
  dep : ∀ o, ops[f.2.1]? = some o → depOn o f.1 = true ∧ depOn o f.2.2 = true ∧ o.guard = none
  free : ∀ o, ops[f.1]? = some o → o.guard = none
  lt : f.1 < ops.size ∧ f.2.1 < ops.size
  one : f.1 ≠ f.2.1 ∧ f.2.2 ≠ f.2.1 ∧ f.2.2 ≠ f.1
  two : ∀ f' ∈ fl, (f.1 = f'.1 ↔ f.2.1 = f'.2.1) ∧ (f.1 = f'.1 ↔ f = f') ∧ f.1 ≠ f'.2.1 ∧ f.1 ≠ f'.2.2 ∧ f.2.1 ≠ f'.2.2
def StabX (B : Nat) (Zo : Obj) : List (World → Value → Prop) → Prop
  | [] => True
  | p :: l => (∀ F w w' v, Fills B Zo F w w' → p w v → p w' v) ∧ StabX B Zo l
theorem StabX.at_ {B : Nat} {Zo : Obj} : ∀ (l : List (World → Value → Prop)) (i : Nat), StabX B Zo l → ∀ F w w' v, Fills B Zo F w w' → Vat l i w v → Vat l i w' v
  | [], i, _ => by
    have : Vat [] i = fun _ _ => True := by simp [Vat]
    rw [this]; exact fun _ _ _ _ _ h => h
  | p :: l, 0, h => h.1
  | p :: l, i + 1, h => by
    have := StabX.at_ l i h.2
    unfold Vat at this ⊢
    rw [List.getD_cons_succ]; exact this
def HopX (P : Program) (ops : Array Oper) (a0 : Act) (yv : Nat → Option Bool) (W : World) (fl : List Fill) (Z : Array Value) (T : TypeId) (Vl : List (World → Value → Prop)) (i : Nat) (o : Oper) : Prop :=
  match fl.find? (fun f => f.2.1 == i) with
  | some f => ∀ (vs : Nat → Value) w g cur cs, Below W.heap.size W w → (∀ j, depOn o j = true → Vat Vl j w (vs j)) → vs f.1 = .pointer (some ⟨g, 0, none⟩) → vs f.2.2 = .agg cs → w.heap[g]? = some (.cells cur T (0, 0)) → cur.size = Z.size → runs P o (rho ops a0 (depOn o) vs) w (fun _ w' => w' = w.setRow g cs)
  | none => match fl.find? (fun f => f.1 == i) with
    | some f => ∀ (vs : Nat → Value) w, runs P o (rho ops a0 (depOn o) vs) w (fun v w' => v = .pointer (some ⟨w.heap.size, 0, none⟩) ∧ w' = w.alloc (.cells Z T))
    | none => ∀ (vs : Nat → Value) w, Below W.heap.size W w → (∀ j, depOn o j = true → Vat Vl j w (vs j)) → if wants yv o = true then runs P o (rho ops a0 (depOn o) vs) w (fun v w' => Below w.heap.size w w' ∧ Vat Vl i w' v) else Vat Vl i w undef
def HopXAll (P : Program) (ops : Array Oper) (a0 : Act) (yv : Nat → Option Bool) (W : World) (fl : List Fill) (Z : Array Value) (T : TypeId) (Vl : List (World → Value → Prop)) : Nat → List Oper → Prop
  | _, [] => True
  | i, o :: l => HopX P ops a0 yv W fl Z T Vl i o ∧ HopXAll P ops a0 yv W fl Z T Vl (i + 1) l
theorem HopXAll.at_ {P : Program} {ops : Array Oper} {a0 : Act} {yv : Nat → Option Bool} {W : World} {fl : List Fill} {Z : Array Value} {T : TypeId} {Vl : List (World → Value → Prop)} : ∀ (l : List Oper) (k i : Nat) (o : Oper), HopXAll P ops a0 yv W fl Z T Vl k l → l[i]? = some o → HopX P ops a0 yv W fl Z T Vl (k + i) o
  | [], k, i, o, _, h => by simp at h
  | x :: l, k, 0, o, h, ho => by
    obtain rfl : x = o := by simpa using ho
    exact h.1
  | x :: l, k, i + 1, o, h, ho => by
    have := HopXAll.at_ l (k + 1) i o h.2 (by simpa using ho)
    rw [show k + 1 + i = k + (i + 1) by omega] at this
    exact this
end Go.Proofs.Ytkhlalpkkmjfnaa

namespace Go.Proofs.Ytkhlalpkkmjfnaa
open Go.RowKit Go.Proofs.YtkhlalpkkmjfnaaW.PrintWords Go.Proofs.YtkhlalpkkmjfnaaW.PrintLast Go.Proofs.YtkhlalpkkmjfnaaW.PrintMore
set_option linter.unusedVariables false
set_option linter.unusedSimpArgs false

theorem Cur.set {cur : Array Value} {k i : Nat} {f : Nat → S30} (h : Cur cur k f) (hi : i < k) (x : S30) : Cur ((cur.setIfInBounds (2 * i) (.int .i32 x.f0)).setIfInBounds (2 * i + 1) (.int .u32 x.f1)) k (putF f i x) := by
  intro j hj
  obtain ⟨h0, h1⟩ := h j hj
  have hlt : 2 * i < cur.size := (Array.getElem?_eq_some_iff.1 (h i hi).1).1
  have hlt1 : 2 * i + 1 < cur.size := (Array.getElem?_eq_some_iff.1 (h i hi).2).1
  unfold putF
  by_cases e : j = i
  · subst e
    rw [if_pos rfl]
    exact ⟨by rw [Array.getElem?_setIfInBounds_ne (by omega), Array.getElem?_setIfInBounds_self_of_lt hlt], by rw [Array.getElem?_setIfInBounds_self_of_lt (by simp; exact hlt1)]⟩
  · rw [if_neg e]
    exact ⟨by rw [Array.getElem?_setIfInBounds_ne (by omega), Array.getElem?_setIfInBounds_ne (by omega)]; exact h0, by rw [Array.getElem?_setIfInBounds_ne (by omega), Array.getElem?_setIfInBounds_ne (by omega)]; exact h1⟩
end Go.Proofs.Ytkhlalpkkmjfnaa

namespace Go.Proofs.Ytkhlalpkkmjfnaa
open Go.RowKit Go.Proofs.YtkhlalpkkmjfnaaW.PrintWords Go.Proofs.YtkhlalpkkmjfnaaW.PrintLast Go.Proofs.YtkhlalpkkmjfnaaW.PrintMore
set_option linter.unusedVariables false
set_option linter.unusedSimpArgs false

/-- 'xs[j:]' and 'xs[:j:j]', with the block. -/
theorem eye_lo {P : Program} (k kl : IntKind) (t e bytes : Nat) (ht : P.underlying t = some (.slice e)) (hinfo : (P.info? e).map (fun i => (i.zero, i.size, i.bytes)) = some (some (.int k 0), 1, bytes)) (A : Option Addr) (n c j : Nat) (hj : j ≤ n) (hc : n ≤ c) :
    ∃ A' : Option Addr, (∀ W : World, (Instr.slice t (.slice A n c) (some (.int kl (j : Int))) none none).run P W = .ok (.slice A' (n - j) (c - j)) W) ∧
      (∀ (w : World) (xs : List Int), (Kd.int k).C w A n xs → (Kd.int k).C w A' (n - j) (xs.drop j)) ∧ ∀ ad', A' = some ad' → ∃ ad, A = some ad ∧ ad'.block = ad.block := by
  obtain ⟨i0, hi, hzz⟩ := Option.map_eq_some_iff.1 hinfo
  simp only [Prod.mk.injEq] at hzz
  have hel : P.elem t = e := by simp [Program.elem, ht]
  have hu : P.underlying t = some (.slice (P.elem t)) := by rw [hel]; exact ht
  refine ⟨if c = j then A else A.map (·.add j), fun W => ?_, fun w xs h => ?_, fun ad' h => ?_⟩
  · rw [run_slice_l W t A n c hu kl (j : Int) (Int.natCast_nonneg _) (by omega), hel]
    simp [sizeOf, typeInfo, hi, hzz.2.1, sliced, Result.andThen]
  · obtain rfl := h.1
    exact Kd.C_of_reads ((Kd.reads_of_C (d := (0 : Int)) h).drop_ j hj hc)
  · split at h
    · exact ⟨ad', h, rfl⟩
    · obtain ⟨ad, h1, rfl⟩ := Option.map_eq_some_iff.1 h
      exact ⟨ad, h1, by rw [add_block]⟩
theorem eye_hi {P : Program} (k kh km : IntKind) (t e bytes : Nat) (ht : P.underlying t = some (.slice e)) (hinfo : (P.info? e).map (fun i => (i.zero, i.size, i.bytes)) = some (some (.int k 0), 1, bytes)) (A : Option Addr) (n c j : Nat) (hj : j ≤ n) (hc : n ≤ c) :
    (∀ W : World, (Instr.slice t (.slice A n c) none (some (.int kh (j : Int))) (some (.int km (j : Int)))).run P W = .ok (.slice A j j) W) ∧
      (∀ (w : World) (xs : List Int), (Kd.int k).C w A n xs → (Kd.int k).C w A j (xs.take j)) := by
  obtain ⟨i0, hi, hzz⟩ := Option.map_eq_some_iff.1 hinfo
  simp only [Prod.mk.injEq] at hzz
  have hel : P.elem t = e := by simp [Program.elem, ht]
  have hu : P.underlying t = some (.slice (P.elem t)) := by rw [hel]; exact ht
  have ha : (A.map fun x => x.add 0) = A := by cases A <;> simp [Addr.add]
  refine ⟨fun W => ?_, fun w xs h => ?_⟩
  · rw [run_slice_hm W t A n c hu kh km (j : Int) (j : Int) (Int.natCast_nonneg _) (Int.le_refl _) (by omega), hel]
    simp [sizeOf, typeInfo, hi, hzz.2.1, sliced, Result.andThen, ha]
  · obtain rfl := h.1
    exact Kd.C_of_reads ((Kd.reads_of_C (d := (0 : Int)) h).take_ j hj)

/-- An eye, whose bytes lie in a block below B. -/
def Ey (w : World) (g B : Nat) (l : List Int) (bad : Bool) : Prop := ∃ A n c, w.heap[g]? = some (.cells #[.slice A n c, .bool bad] 106 (0, 0)) ∧ (Kd.int .u8).C w A n l ∧ n ≤ c ∧ (∀ ad, A = some ad → ad.block ≠ g ∧ ad.block < B) ∧ g < B
def EyTo (w w' : World) (g B : Nat) (l : List Int) (bad : Bool) : Prop := Ey w' g B l bad ∧ KeepBut w w' g none ∧ Below g w w'
theorem eye_block (w w' : World) {A : Option Addr} {n : Nat} {l : List Int} (h : (Kd.int .u8).C w A n l) (hb : ∀ ad, A = some ad → w'.heap[ad.block]? = w.heap[ad.block]?) : (Kd.int .u8).C w' A n l := by
  refine ⟨h.1, h.2.1, fun hn => ?_⟩
  obtain ⟨ad, e, hj⟩ := h.2.2 hn
  refine ⟨ad, e, fun j p hp => ?_⟩
  obtain ⟨cs, h1, h2, h3⟩ := hj j p hp
  refine ⟨cs, h1, h2, fun i u hu => ?_⟩
  have := h3 i u hu
  have hbl : ∀ k, (ad.add k).block = ad.block := fun k => by rw [add_block]
  unfold World.cell? at this ⊢
  rw [hbl] at this ⊢
  rw [hb ad e]
  exact this
theorem Ey.below {w w' : World} {g B : Nat} {l : List Int} {bad : Bool} (h : Ey w g B l bad) (hb : Below B w w') (hB : B ≤ w.heap.size) : Ey w' g B l bad := by
  obtain ⟨A, n, c, h1, h2, h3, h4, h5⟩ := h
  exact ⟨A, n, c, (hb.block g h5).trans h1, eye_block w w' h2 (fun ad e => hb.block _ (h4 ad e).2), h3, h4, h5⟩
theorem Ey.lt {w : World} {g B : Nat} {l : List Int} {bad : Bool} (h : Ey w g B l bad) : g < w.heap.size ∧ l.length ≤ 9223372036854775807 := by
  obtain ⟨A, n, c, h1, h2, h3, h4, h5⟩ := h
  exact ⟨blk_lt h1, by rw [h2.1]; exact h2.2.1⟩
theorem EyTo.trans {w w1 w2 : World} {g B : Nat} {l1 l2 : List Int} {b1 b2 : Bool} (h : EyTo w w1 g B l1 b1) (h' : EyTo w1 w2 g B l2 b2) : EyTo w w2 g B l2 b2 := ⟨h'.1, h.2.1.trans h'.2.1 (.inl rfl), h.2.2.trans h'.2.2⟩
theorem EyTo.refl {w : World} {g B : Nat} {l : List Int} {b : Bool} (h : Ey w g B l b) : EyTo w w g B l b := ⟨h, KeepBut.refl _ _ _, Below.refl _ _⟩

set_option maxHeartbeats 1000000 in
theorem read_any (A : Option Addr) (n c : Nat) (q : List Int) (w : World) (hq : (Kd.int .u8).C w A n q) (hn : n ≤ 100000000) :
    Calls Try.prog 45 #[.slice A n c] w fun e w' => ∃ g, e = .returned (.pointer (some ⟨g, 0, none⟩)) ∧ w.heap.size ≤ g ∧ Ey w' g w'.heap.size q false ∧ Below w.heap.size w w' := by
  have KEY := Aside0.mk (clone_any A n c q w hq (by omega))
  clear hq hn
  go_enter Try.func45, Try.ntmps45
  go_wp2_with fail
  refine KEY.out.mono ?_
  rintro e w1 ⟨vo, rfl, h1, h2⟩
  obtain ⟨Q, d, hv⟩ := Kd.R_slice h1
  subst hv
  obtain ⟨r1, r2, r3⟩ := Rn_C h1
  have HLT := Aside0.mk (Kd.R_lt h1)
  have HC := Aside0.mk r3
  have HD := Aside0.mk r2
  have H2 := Aside0.mk h2
  generalize q.length = m at *
  clear h1 h2 KEY r1 r2 r3
  go_wp2_with fail
  go_ret
  refine ⟨w1.heap.size, rfl, H2.out.size, ⟨Q, m, d, blk_new _ _, Kd.C_alloc HC.out _, HD.out, fun ad e => ?_, by simp⟩, below_step H2.out (below_alloc (Below.refl _ _) _)⟩
  have := HLT.out ad.block (by rw [e]; rfl)
  simp
  omega

set_option maxHeartbeats 1000000 in
theorem wrong_any (g B : Nat) (l : List Int) (bad : Bool) (w : World) (hk : Ey w g B l bad) :
    Calls Try.prog 61 #[.pointer (some ⟨g, 0, none⟩)] w fun e w' => e = .returned (.bool bad) ∧ w' = w := by
  obtain ⟨A, n, c, h1, h2, h3, h4, h5⟩ := hk
  have c1 := blk_cell h1 1
  clear h1 h2 h3 h4 h5
  go_enter Try.func61, Try.ntmps61
  go_wp2_with fail
  go_ret
  exact ⟨rfl, rfl⟩
set_option maxHeartbeats 1000000 in
theorem efail_any (g B : Nat) (l : List Int) (bad : Bool) (w : World) (hk : Ey w g B l bad) :
    Calls Try.prog 64 #[.pointer (some ⟨g, 0, none⟩)] w fun e w' => e = .returned (.tuple #[]) ∧ EyTo w w' g B [] true := by
  obtain ⟨A, n, c, h1, h2, h3, h4, h5⟩ := hk
  have c0 := blk_cell h1 0
  have c1 := blk_cell h1 1
  have f0 := blk_frozen h1 0
  have f1 := blk_frozen h1 1
  have H1 := Aside0.mk h1
  have H5 := Aside0.mk h5
  clear h1 h2 h3 h4 h5
  go_enter Try.func64, Try.ntmps64
  go_wp2_with fail
  go_end0
  refine ⟨rfl, ⟨none, 0, 0, blk_set (blk_set H1.out 1 _) 0 _, Kd.C_nil _ _, Nat.le_refl _, ⟨(fun ad e => nomatch e), H5.out⟩⟩, ((KeepBut.refl w g none).set_ 1 _).set_ 0 _, ((Below.refl g w).setCell (Nat.le_refl _) _).setCell (Nat.le_refl _) _⟩
set_option maxRecDepth 100000 in
set_option maxHeartbeats 2000000 in
theorem take_no (g B : Nat) (l : List Int) (bad : Bool) (k : Nat) (w : World) (hk : Ey w g B l bad) (hb : bad = true ∨ l.length < k) :
    Calls Try.prog 60 #[.pointer (some ⟨g, 0, none⟩), .int .i64 k] w fun e w' => e = .returned (.slice none 0 0) ∧ EyTo w w' g B [] true := by
  have KEY := Aside0.mk (wrong_any g B l bad w hk)
  have KEY2 := Aside0.mk (efail_any g B l bad w hk)
  obtain ⟨A, n, c, h1, h2, h3, h4, h5⟩ := hk
  obtain rfl := h2.1
  have c0 := blk_cell h1 0
  have hc : bad = true ∨ (bad = false ∧ decide ((l.length : Int) < (k : Int)) = true ∧ decide (l.length < k) = true) := by
    cases bad
    · have hlk : l.length < k := by rcases hb with h | h; cases h; exact h
      exact .inr ⟨rfl, decide_eq_true (by omega), decide_eq_true hlk⟩
    · exact .inl rfl
  generalize l.length = m at *
  clear h1 h2 h3 h4 h5 hb
  rcases hc with rfl | ⟨rfl, hc, hc2⟩
  all_goals
    go_enter Try.func60, Try.ntmps60
    go_wp2_with fail
    refine KEY.out.mono ?_
    rintro e w1 ⟨rfl, rfl⟩
    clear KEY
    go_wp2_with fail
    refine KEY2.out.mono ?_
    rintro e w2 ⟨rfl, h⟩
    have H := Aside0.mk h
    clear h KEY2
    go_wp2_with fail
    go_ret
    exact ⟨rfl, H.out⟩
theorem ey_drop {w w' : World} {g B : Nat} {A' : Option Addr} {n c : Nat} {l : List Int} (h : w'.heap[g]? = some (.cells #[.slice A' n c, .bool false] 106 (0, 0))) (hC : (Kd.int .u8).C w' A' n l) (hc : n ≤ c) (hA : ∀ ad, A' = some ad → ad.block ≠ g ∧ ad.block < B) (hg : g < B) : Ey w' g B l false := ⟨A', n, c, h, hC, hc, hA, hg⟩

set_option maxRecDepth 100000 in
set_option maxHeartbeats 2000000 in
theorem take_ok (g B : Nat) (l : List Int) (k : Nat) (w : World) (hk : Ey w g B l false) (hl : k ≤ l.length) :
    Calls Try.prog 60 #[.pointer (some ⟨g, 0, none⟩), .int .i64 k] w fun e w' => ∃ A', e = .returned (.slice A' k k) ∧ (Kd.int .u8).C w' A' k (l.take k) ∧ EyTo w w' g B (l.drop k) false := by
  have KEY := Aside0.mk (wrong_any g B l false w hk)
  obtain ⟨A, n, c, h1, h2, h3, h4, h5⟩ := hk
  obtain rfl := h2.1
  have c0 := blk_cell h1 0
  have f0 := blk_frozen h1 0
  obtain ⟨A', a1, a2, a3⟩ := eye_lo (P := Try.prog) .u8 .i64 39 5 1 Try.underlying39 np_info A l.length c k hl h3
  obtain ⟨b1, b2⟩ := eye_hi (P := Try.prog) .u8 .i64 .i64 39 5 1 Try.underlying39 np_info A l.length c k hl h3
  have hkeep := (KeepBut.refl w g none).set_ 0 (.slice A' (l.length - k) (c - k))
  have H1 : Aside0 ((Kd.int .u8).C (w.setCell ⟨g, 0, none⟩ (.slice A' (l.length - k) (c - k))) A k (l.take k)) := ⟨b2 _ _ (Kd.C_keep (0 : Int) h2 hkeep (fun ad e _ => (h4 ad e).1))⟩
  have H2 : Aside0 (EyTo w (w.setCell ⟨g, 0, none⟩ (.slice A' (l.length - k) (c - k))) g B (l.drop k) false) := by
    refine ⟨⟨ey_drop (w := w) (blk_set h1 0 _) (a2 _ _ (Kd.C_keep (0 : Int) h2 hkeep (fun ad e _ => (h4 ad e).1))) (by omega) (fun ad e => ?_) h5, hkeep, (Below.refl g w).setCell (Nat.le_refl _) _⟩⟩
    obtain ⟨ad0, e0, hbk⟩ := a3 ad e
    rw [hbk]
    exact h4 ad0 e0
  have d1 : decide ((l.length : Int) < (k : Int)) = false := decide_eq_false (by omega)
  have d2 : decide (l.length < k) = false := decide_eq_false (by omega)
  have b1' := b1 w
  have a1' := a1 w
  generalize l.length = m at *
  generalize l.take k = lt at *
  generalize l.drop k = ld at *
  clear h1 h2 h3 h4 h5 hl a2 a3 b2 hkeep a1 b1
  go_enter Try.func60, Try.ntmps60
  go_wp2_with fail
  refine KEY.out.mono ?_
  rintro e w1 ⟨rfl, rfl⟩
  clear KEY
  go_wp2_with fail
  go_ret
  exact ⟨_, rfl, H1.out, H2.out⟩

theorem add0 (ad : Addr) : ad.add 0 = ad := by cases ad; simp [Addr.add]
/-- What Byte tells. -/
def eByte (l : List Int) (bad : Bool) : Int × List Int × Bool := if bad = true ∨ l.length < 1 then (0, [], true) else (l.headD 0, l.drop 1, false)
theorem nz_slice (A : Option Addr) (n c : Nat) (w : World) : (binOp .neq 39 (.slice A n c) (.slice none 0 0)).run Try.prog w = .ok (.bool (!A.isNone)) w := run_neq_slice_nil_any w _ _ _ _ _ _ _ Try.underlying39

set_option maxHeartbeats 1000000 in
theorem ebyte_any (g B : Nat) (l : List Int) (bad : Bool) (w : World) (hk : Ey w g B l bad) :
    Calls Try.prog 47 #[.pointer (some ⟨g, 0, none⟩)] w fun e w' => e = .returned (.int .u8 (eByte l bad).1) ∧ EyTo w w' g B (eByte l bad).2.1 (eByte l bad).2.2 := by
  unfold eByte
  by_cases hc : bad = true ∨ l.length < 1
  · rw [if_pos hc]
    have KEY := Aside0.mk (take_no g B l bad 1 w hk hc)
    have hz := fun w => nz_slice none 0 0 w
    clear hk hc
    go_enter Try.func47, Try.ntmps47
    go_wp2_with fail
    refine KEY.out.mono ?_
    rintro e w1 ⟨rfl, h⟩
    have H := Aside0.mk h
    clear h KEY
    go_wp2_with fail
    go_ret
    exact ⟨rfl, H.out⟩
  · rw [if_neg hc]
    have hb : bad = false := by cases bad; rfl; exact absurd (.inl rfl) hc
    subst hb
    have hl : 1 ≤ l.length := by rcases Nat.lt_or_ge l.length 1 with h | h; exact absurd (.inr h) hc; exact h
    have KEY := Aside0.mk (take_ok g B l 1 w hk hl)
    have hz := fun a w => nz_slice (some a) 1 1 w
    have HL : Aside0 (l.take 1 = [l.headD 0]) := ⟨by cases l with | nil => simp at hl | cons x t => rfl⟩
    clear hk hc hl
    generalize l.headD 0 = x at *
    generalize l.drop 1 = ld at *
    go_enter Try.func47, Try.ntmps47
    go_wp2_with fail
    refine KEY.out.mono ?_
    rintro e w1 ⟨A', rfl, hC, h⟩
    rw [HL.out] at hC
    obtain ⟨ad, rfl, hx⟩ := int_at hC 0 (by simp)
    rw [List.getElem_cons_zero, add0] at hx
    have H := Aside0.mk h
    clear h KEY hC
    go_wp2_with fail
    go_ret
    exact ⟨rfl, H.out⟩

set_option maxHeartbeats 1000000 in
theorem done_any (g B : Nat) (l : List Int) (bad : Bool) (w : World) (hk : Ey w g B l bad) :
    Calls Try.prog 48 #[.pointer (some ⟨g, 0, none⟩)] w fun e w' => e = .returned (.int .i64 (if bad = true ∨ 0 < l.length then 2 else 0)) ∧ w' = w := by
  have KEY := Aside0.mk (wrong_any g B l bad w hk)
  obtain ⟨A, n, c, h1, h2, h3, h4, h5⟩ := hk
  obtain rfl := h2.1
  have c0 := blk_cell h1 0
  generalize l.length = m at *
  clear h1 h2 h3 h4 h5
  have hc : (bad = true ∧ (if bad = true ∨ 0 < m then (2 : Int) else 0) = 2) ∨ (bad = false ∧ decide ((0 : Int) < (m : Int)) = true ∧ decide (0 < m) = true ∧ (if bad = true ∨ 0 < m then (2 : Int) else 0) = 2) ∨ (bad = false ∧ decide ((0 : Int) < (m : Int)) = false ∧ decide (0 < m) = false ∧ (if bad = true ∨ 0 < m then (2 : Int) else 0) = 0) := by
    cases bad
    · rcases Nat.eq_zero_or_pos m with h | h
      · subst h; exact .inr (.inr ⟨rfl, by decide, by decide, by simp⟩)
      · exact .inr (.inl ⟨rfl, decide_eq_true (by omega), decide_eq_true h, by simp [h]⟩)
    · exact .inl ⟨rfl, by simp⟩
  rcases hc with ⟨rfl, hv⟩ | ⟨rfl, d1, d2, hv⟩ | ⟨rfl, d1, d2, hv⟩
  all_goals
    rw [hv]
    clear hv
    go_enter Try.func48, Try.ntmps48
    go_wp2_with fail
    refine KEY.out.mono ?_
    rintro e w1 ⟨rfl, rfl⟩
    clear KEY
    go_wp2_with fail
    go_ret
    exact ⟨rfl, rfl⟩
end Go.Proofs.Ytkhlalpkkmjfnaa

namespace Go.Proofs.Ytkhlalpkkmjfnaa
open Go.RowKit Go.Proofs.YtkhlalpkkmjfnaaW.PrintWords Go.Proofs.YtkhlalpkkmjfnaaW.PrintLast Go.Proofs.YtkhlalpkkmjfnaaW.PrintMore
set_option linter.unusedVariables false
set_option linter.unusedSimpArgs false

/-- A number, its lowest byte first. -/
def leN : List Int → Int
  | [] => 0
  | b :: l => b + 256 * leN l
/-- What Half, Word tell. -/
def eFix (k : Nat) (l : List Int) (bad : Bool) : Int × List Int × Bool := if bad = true ∨ l.length < k then (0, [], true) else (leN (l.take k), l.drop k, false)

theorem EyTo.drew {w w1 : World} {g B : Nat} {l : List Int} {b : Bool} (h : EyTo w w1 g B l b) : EyTo w w1.drew g B l b :=
  ⟨h.1, h.2.1, h.2.2.drew⟩
theorem or_at (i x y : Nat) (hx : x < 2 ^ i) : x ||| y * 2 ^ i = x + 2 ^ i * y := by
  rw [Nat.or_comm, Nat.mul_comm, ← Nat.two_pow_add_eq_or_of_lt hx, Nat.add_comm]
theorem word_v (x y z t : Nat) (hx : x < 256) (hy : y < 256) (hz : z < 256) (ht : t < 256) : bits .or .u32 (bits .or .u32 (bits .or .u32 (x : Int) ((y : Int) * 256)) ((z : Int) * 65536)) ((t : Int) * 16777216) = ((x + 256 * (y + 256 * (z + 256 * t)) : Nat) : Int) := by
  rw [show (y : Int) * 256 = ((y * 2 ^ 8 : Nat) : Int) by omega, u32_or_nat _ _ (by omega) (by omega), or_at 8 x y (by omega),
    show (z : Int) * 65536 = ((z * 2 ^ 16 : Nat) : Int) by omega, u32_or_nat _ _ (by omega) (by omega), or_at 16 _ z (by omega),
    show (t : Int) * 16777216 = ((t * 2 ^ 24 : Nat) : Int) by omega, u32_or_nat _ _ (by omega) (by omega), or_at 24 _ t (by omega)]
  omega

set_option maxHeartbeats 1000000 in
theorem eword_any (g B : Nat) (l : List Int) (bad : Bool) (w : World) (hk : Ey w g B l bad) (hb : Bytes l) :
    Calls Try.prog 46 #[.pointer (some ⟨g, 0, none⟩)] w fun e w' => e = .returned (.int .u32 (eFix 4 l bad).1) ∧ EyTo w w' g B (eFix 4 l bad).2.1 (eFix 4 l bad).2.2 := by
  unfold eFix
  by_cases hc : bad = true ∨ l.length < 4
  · rw [if_pos hc]
    have KEY := Aside0.mk (take_no g B l bad 4 w hk hc)
    have hz := fun w => nz_slice none 0 0 w
    clear hk hc hb
    go_enter Try.func46, Try.ntmps46
    go_wp2_with fail
    refine KEY.out.mono ?_
    rintro e w1 ⟨rfl, h⟩
    have H := Aside0.mk h
    clear h KEY
    go_wp2_with fail
    go_ret
    exact ⟨rfl, H.out⟩
  · rw [if_neg hc]
    have hbb : bad = false := by cases bad; rfl; exact absurd (.inl rfl) hc
    subst hbb
    have hl : 4 ≤ l.length := by rcases Nat.lt_or_ge l.length 4 with h | h; exact absurd (.inr h) hc; exact h
    have KEY := Aside0.mk (take_ok g B l 4 w hk hl)
    have hz := fun a w => nz_slice (some a) 4 4 w
    obtain ⟨x, y, z, t, hxy, hx, hy, hz0, ht⟩ : ∃ x y z t : Nat, l.take 4 = [(x : Int), (y : Int), (z : Int), (t : Int)] ∧ x < 256 ∧ y < 256 ∧ z < 256 ∧ t < 256 := by
      match l, hl, hb with
      | a :: b :: c :: d :: t, _, hb =>
        have h1 := hb a (by simp)
        have h2 := hb b (by simp)
        have h3 := hb c (by simp)
        have h4 := hb d (by simp)
        exact ⟨a.toNat, b.toNat, c.toNat, d.toNat, by simp; omega, by omega, by omega, by omega, by omega⟩
    have HL := Aside0.mk hxy
    have HV : Aside0 (leN (l.take 4) = ((x + 256 * (y + 256 * (z + 256 * t)) : Nat) : Int)) := ⟨by rw [hxy]; simp [leN]⟩
    rw [HV.out]
    have hx' : (x : Int) ≤ 255 := by omega
    have hy' : (y : Int) ≤ 255 := by omega
    have hz' : (z : Int) ≤ 255 := by omega
    have ht' : (t : Int) ≤ 255 := by omega
    have HE := Aside0.mk (word_v x y z t hx hy hz0 ht)
    clear hk hc hl hb hxy hx hy hz0 ht
    generalize l.drop 4 = ld at *
    go_enter Try.func46, Try.ntmps46
    go_wp2_with fail
    refine KEY.out.mono ?_
    rintro e w1 ⟨A', rfl, hC, h⟩
    rw [HL.out] at hC
    obtain ⟨ad, rfl, c0⟩ := int_at hC 0 (by simp)
    obtain ⟨ad', e', c1⟩ := int_at hC 1 (by simp)
    obtain rfl := Option.some.inj e'
    obtain ⟨ad', e', c2⟩ := int_at hC 2 (by simp)
    obtain rfl := Option.some.inj e'
    obtain ⟨ad', e', c3⟩ := int_at hC 3 (by simp)
    obtain rfl := Option.some.inj e'
    rw [List.getElem_cons_zero, add0] at c0
    rw [List.getElem_cons_succ, List.getElem_cons_zero, show ad.add 1 = ⟨ad.block, ad.off + 1, none⟩ from rfl] at c1
    rw [List.getElem_cons_succ, List.getElem_cons_succ, List.getElem_cons_zero, show ad.add 2 = ⟨ad.block, ad.off + 2, none⟩ from rfl] at c2
    rw [List.getElem_cons_succ, List.getElem_cons_succ, List.getElem_cons_succ, List.getElem_cons_zero, show ad.add 3 = ⟨ad.block, ad.off + 3, none⟩ from rfl] at c3
    have H := Aside0.mk h
    clear h KEY hC
    go_wp2_with fail
    go_region
    go_wp2_with fail
    rw [HE.out]
    go_ret
    exact ⟨rfl, H.out.drew⟩
end Go.Proofs.Ytkhlalpkkmjfnaa

namespace Go.Proofs.Ytkhlalpkkmjfnaa
open Go.RowKit Go.Proofs.YtkhlalpkkmjfnaaW.PrintWords Go.Proofs.YtkhlalpkkmjfnaaW.PrintLast Go.Proofs.YtkhlalpkkmjfnaaW.PrintMore
set_option linter.unusedVariables false
set_option linter.unusedSimpArgs false

/-- Row i of what stands behind the head: its place, its cell. -/
def rowP (r : List Int) (i : Nat) : Int := (r.drop (9 * i)).headD 0
def rowC (r : List Int) (i : Nat) : S30 := ⟨wrap32 (leN ((r.drop (9 * i + 1)).take 4)), leN ((r.drop (9 * i + 5)).take 4)⟩
def pL (r : List Int) (k : Nat) : List Int := (List.range k).map (rowP r)
def cL (r : List Int) (k : Nat) : List S30 := (List.range k).map (rowC r)
theorem pL_succ (r : List Int) (k : Nat) : pL r (k + 1) = pL r k ++ [rowP r k] := by unfold pL; rw [List.range_succ, List.map_append]; rfl
theorem cL_succ (r : List Int) (k : Nat) : cL r (k + 1) = cL r k ++ [rowC r k] := by unfold cL; rw [List.range_succ, List.map_append]; rfl
theorem pL_len (r : List Int) (k : Nat) : (pL r k).length = k := by simp [pL]
theorem cL_len (r : List Int) (k : Nat) : (cL r k).length = k := by simp [cL]
/-- How many rows the head tells. -/
def cntD (q : List Int) : Nat := ((q.drop 8).headD 0).toNat
def okD (q : List Int) : Bool := decide (9 ≤ q.length ∧ q.length = 9 + 9 * cntD q) && risB (-1) (pL (q.drop 9) (cntD q))
theorem leN_bd : ∀ {l : List Int}, Bytes l → 0 ≤ leN l ∧ leN l < 256 ^ l.length
  | [], _ => by simp [leN]
  | b :: l, h => by
    have h1 := h b List.mem_cons_self
    have h2 := leN_bd (l := l) (fun x hx => h x (List.mem_cons_of_mem _ hx))
    have : (256 : Int) ^ (l.length + 1) = 256 ^ l.length * 256 := by rw [Int.pow_succ]
    simp only [leN, List.length_cons]
    rw [this]
    omega
theorem leN4 {l : List Int} (h : Bytes l) : U32 (leN (l.take 4)) := by
  have h1 := leN_bd (h.take 4)
  have h2 : (256 : Int) ^ (l.take 4).length ≤ 4294967296 := by
    have : (l.take 4).length ≤ 4 := List.length_take_le _ _
    have h3 : ∀ k : Nat, k ≤ 4 → (256 : Int) ^ k ≤ 4294967296 := fun k hk => by
      match k, hk with
      | 0, _ => decide
      | 1, _ => decide
      | 2, _ => decide
      | 3, _ => decide
      | 4, _ => decide
    exact h3 _ this
  unfold U32; omega
theorem pL_bytes {r : List Int} (h : Bytes r) (k : Nat) : Bytes (pL r k) := fun x hx => by
  obtain ⟨i, _, rfl⟩ := List.mem_map.1 hx
  unfold rowP
  have := h.drop (9 * i)
  cases hd : r.drop (9 * i) with
  | nil => simp
  | cons a l => rw [hd] at this; exact this a List.mem_cons_self
theorem Bytes.head {l : List Int} (h : Bytes l) : 0 ≤ l.headD 0 ∧ l.headD 0 < 256 := by
  cases l with
  | nil => simp
  | cons a t => exact h a List.mem_cons_self
/-- An eye on its way through the rows: what is left, what was told. -/
def EyP (q : List Int) (i : Nat) (l : List Int) (bad : Bool) (P : List Int) (C : List S30) : Prop :=
  P.length = i ∧ C.length = i ∧ Bytes l ∧ Bytes P ∧ ((bad = false ∧ l = q.drop (9 + 9 * i) ∧ 9 + 9 * i ≤ q.length ∧ P = pL (q.drop 9) i ∧ C = cL (q.drop 9) i) ∨ (bad = true ∧ l = [] ∧ q.length < 9 + 9 * i))
theorem eByte_b {l : List Int} {bad : Bool} (h : Bytes l) : (0 ≤ (eByte l bad).1 ∧ (eByte l bad).1 < 256) ∧ Bytes (eByte l bad).2.1 := by
  unfold eByte
  split
  · exact ⟨by simp, Bytes.nil⟩
  · exact ⟨h.head, h.drop 1⟩
theorem eFix_b {l : List Int} {bad : Bool} (k : Nat) (h : Bytes l) : Bytes (eFix k l bad).2.1 := by
  unfold eFix
  split
  · exact Bytes.nil
  · exact h.drop k
theorem eByte_bad (l : List Int) : eByte l true = (0, [], true) := by unfold eByte; rw [if_pos (.inl rfl)]
theorem eFix_bad (k : Nat) (l : List Int) : eFix k l true = (0, [], true) := by unfold eFix; rw [if_pos (.inl rfl)]
theorem eByte_good {l : List Int} (h : 1 ≤ l.length) : eByte l false = (l.headD 0, l.drop 1, false) := by unfold eByte; rw [if_neg (fun q => by rcases q with q | q; cases q; omega)]
theorem eByte_short {l : List Int} (h : l.length < 1) : eByte l false = (0, [], true) := by unfold eByte; rw [if_pos (.inr h)]
theorem eFix_good {k : Nat} {l : List Int} (h : k ≤ l.length) : eFix k l false = (leN (l.take k), l.drop k, false) := by unfold eFix; rw [if_neg (fun q => by rcases q with q | q; cases q; omega)]
theorem eFix_short {k : Nat} {l : List Int} (h : l.length < k) : eFix k l false = (0, [], true) := by unfold eFix; rw [if_pos (.inr h)]
/-- The head. -/
theorem head_step {q : List Int} (hq : Bytes q) {t h n : Int} {l1 l2 l3 : List Int} {b1 b2 b3 : Bool} (e1 : eFix 4 q false = (t, l1, b1)) (e2 : eFix 4 l1 b1 = (h, l2, b2)) (e3 : eByte l2 b2 = (n, l3, b3)) :
    EyP q 0 l3 b3 [] [] ∧ 0 ≤ n ∧ n < 256 ∧ (9 ≤ q.length → t = leN (q.take 4) ∧ h = leN ((q.drop 4).take 4) ∧ n.toNat = cntD q) ∧ (q.length < 9 → n = 0) := by
  have hB3 : Bytes l3 ∧ 0 ≤ n ∧ n < 256 := by
    have h1 := eFix_b (bad := false) 4 hq
    rw [e1] at h1
    have h2 := eFix_b (bad := b1) 4 h1
    rw [e2] at h2
    have h3 := eByte_b (bad := b2) h2
    rw [e3] at h3
    exact ⟨h3.2, h3.1⟩
  by_cases h9 : 9 ≤ q.length
  · rw [eFix_good (by omega)] at e1
    simp only [Prod.mk.injEq] at e1
    obtain ⟨rfl, rfl, rfl⟩ := e1
    rw [eFix_good (by rw [List.length_drop]; omega), List.drop_drop] at e2
    simp only [Prod.mk.injEq] at e2
    obtain ⟨rfl, rfl, rfl⟩ := e2
    rw [eByte_good (by rw [List.length_drop]; omega), List.drop_drop] at e3
    simp only [Prod.mk.injEq] at e3
    obtain ⟨rfl, rfl, rfl⟩ := e3
    exact ⟨⟨rfl, rfl, hB3.1, Bytes.nil, .inl ⟨rfl, rfl, by omega, rfl, rfl⟩⟩, hB3.2.1, hB3.2.2, fun _ => ⟨rfl, rfl, rfl⟩, fun h => by omega⟩
  · have bad3 : b3 = true ∧ l3 = [] ∧ n = 0 := by
      by_cases h4 : 4 ≤ q.length
      · rw [eFix_good h4] at e1
        simp only [Prod.mk.injEq] at e1
        obtain ⟨rfl, rfl, rfl⟩ := e1
        by_cases h8 : 8 ≤ q.length
        · rw [eFix_good (by rw [List.length_drop]; omega)] at e2
          simp only [Prod.mk.injEq] at e2
          obtain ⟨rfl, rfl, rfl⟩ := e2
          rw [eByte_short (by simp; omega)] at e3
          simp only [Prod.mk.injEq] at e3
          exact ⟨e3.2.2.symm, e3.2.1.symm, e3.1.symm⟩
        · rw [eFix_short (by rw [List.length_drop]; omega)] at e2
          simp only [Prod.mk.injEq] at e2
          obtain ⟨rfl, rfl, rfl⟩ := e2
          rw [eByte_bad] at e3
          simp only [Prod.mk.injEq] at e3
          exact ⟨e3.2.2.symm, e3.2.1.symm, e3.1.symm⟩
      · rw [eFix_short (by omega)] at e1
        simp only [Prod.mk.injEq] at e1
        obtain ⟨rfl, rfl, rfl⟩ := e1
        rw [eFix_bad] at e2
        simp only [Prod.mk.injEq] at e2
        obtain ⟨rfl, rfl, rfl⟩ := e2
        rw [eByte_bad] at e3
        simp only [Prod.mk.injEq] at e3
        exact ⟨e3.2.2.symm, e3.2.1.symm, e3.1.symm⟩
    obtain ⟨rfl, rfl, rfl⟩ := bad3
    exact ⟨⟨rfl, rfl, Bytes.nil, Bytes.nil, .inr ⟨rfl, rfl, by omega⟩⟩, by omega, by omega, fun h => absurd h h9, fun _ => rfl⟩
/-- One row. -/
theorem row_step {q : List Int} {i : Nat} {l : List Int} {bad : Bool} {P : List Int} {C : List S30} (H : EyP q i l bad P C) {b v m : Int} {l1 l2 l3 : List Int} {b1 b2 b3 : Bool} (e1 : eByte l bad = (b, l1, b1)) (e2 : eFix 4 l1 b1 = (v, l2, b2)) (e3 : eFix 4 l2 b2 = (m, l3, b3)) :
    EyP q (i + 1) l3 b3 (P ++ [b]) (C ++ [⟨wrap32 v, m⟩]) := by
  obtain ⟨hP, hC, hl, hBP, hs⟩ := H
  have hb : (0 ≤ b ∧ b < 256) ∧ Bytes l1 := by have := eByte_b (bad := bad) hl; rw [e1] at this; exact this
  have h2 : Bytes l2 := by have := eFix_b (bad := b1) 4 hb.2; rw [e2] at this; exact this
  have h3 : Bytes l3 := by have := eFix_b (bad := b2) 4 h2; rw [e3] at this; exact this
  refine ⟨by simp [hP], by simp [hC], h3, hBP.append (fun x hx => by obtain rfl := List.mem_singleton.1 hx; exact hb.1), ?_⟩
  rcases hs with ⟨rfl, hl0, hle, hPe, hCe⟩ | ⟨rfl, rfl, hlt⟩
  · have hlen : l.length = q.length - (9 + 9 * i) := by rw [hl0, List.length_drop]
    by_cases h9 : 9 ≤ l.length
    · left
      rw [eByte_good (by omega)] at e1
      simp only [Prod.mk.injEq] at e1
      obtain ⟨rfl, rfl, rfl⟩ := e1
      rw [eFix_good (by rw [List.length_drop]; omega), List.drop_drop] at e2
      simp only [Prod.mk.injEq] at e2
      obtain ⟨rfl, rfl, rfl⟩ := e2
      rw [eFix_good (by rw [List.length_drop]; omega), List.drop_drop] at e3
      simp only [Prod.mk.injEq] at e3
      obtain ⟨rfl, rfl, rfl⟩ := e3
      refine ⟨rfl, ?_, by omega, ?_, ?_⟩
      · rw [hl0, List.drop_drop]; congr 1
      · rw [pL_succ, hPe, hl0]
        unfold rowP
        rw [List.drop_drop]
      · rw [cL_succ, hCe, hl0]
        unfold rowC
        simp only [List.drop_drop]
        congr 4 <;> omega
    · right
      have fin : b3 = true ∧ l3 = [] := by
        by_cases h1 : 1 ≤ l.length
        · rw [eByte_good h1] at e1
          simp only [Prod.mk.injEq] at e1
          obtain ⟨rfl, rfl, rfl⟩ := e1
          by_cases h5 : 5 ≤ l.length
          · rw [eFix_good (by rw [List.length_drop]; omega)] at e2
            simp only [Prod.mk.injEq] at e2
            obtain ⟨rfl, rfl, rfl⟩ := e2
            rw [eFix_short (by simp; omega)] at e3
            simp only [Prod.mk.injEq] at e3
            exact ⟨e3.2.2.symm, e3.2.1.symm⟩
          · rw [eFix_short (by rw [List.length_drop]; omega)] at e2
            simp only [Prod.mk.injEq] at e2
            obtain ⟨rfl, rfl, rfl⟩ := e2
            rw [eFix_bad] at e3
            simp only [Prod.mk.injEq] at e3
            exact ⟨e3.2.2.symm, e3.2.1.symm⟩
        · rw [eByte_short (by omega)] at e1
          simp only [Prod.mk.injEq] at e1
          obtain ⟨rfl, rfl, rfl⟩ := e1
          rw [eFix_bad] at e2
          simp only [Prod.mk.injEq] at e2
          obtain ⟨rfl, rfl, rfl⟩ := e2
          rw [eFix_bad] at e3
          simp only [Prod.mk.injEq] at e3
          exact ⟨e3.2.2.symm, e3.2.1.symm⟩
      exact ⟨fin.1, fin.2, by omega⟩
  · right
    rw [eByte_bad] at e1
    simp only [Prod.mk.injEq] at e1
    obtain ⟨rfl, rfl, rfl⟩ := e1
    rw [eFix_bad] at e2
    simp only [Prod.mk.injEq] at e2
    obtain ⟨rfl, rfl, rfl⟩ := e2
    rw [eFix_bad] at e3
    simp only [Prod.mk.injEq] at e3
    exact ⟨e3.2.2.symm, e3.2.1.symm, by omega⟩
end Go.Proofs.Ytkhlalpkkmjfnaa

namespace Go.Proofs.Ytkhlalpkkmjfnaa
open Go.RowKit Go.Proofs.YtkhlalpkkmjfnaaW.PrintWords Go.Proofs.YtkhlalpkkmjfnaaW.PrintLast Go.Proofs.YtkhlalpkkmjfnaaW.PrintMore
set_option linter.unusedVariables false
set_option linter.unusedSimpArgs false

theorem R_eye {α : Type} {d : Kd α} {e B ge : Nat} {w w' : World} {v : Value} {xs : List α} (h : d.R e w B (fun _ => True) v xs) (hk : KeepBut w w' ge none) (hg : ge < B) : d.R e w' B (fun _ => True) v xs :=
  Kd.R_mono (Kd.R_step (Kd.R_bound h) (fun k hk2 hlt => hk.2 k hlt (by have := hk2.2.1; omega) (by simp))) (fun _ _ => trivial)
/-- The state of the loop: the eye, the struct, its rows. -/
def PSt (B0 B ge gd : Nat) (w0 w : World) (tk hs : Int) (l : List Int) (bad : Bool) (vP vC uP uC : Value) (P : List Int) (C : List S30) : Prop :=
  Ey w ge B l bad ∧ Hp B0 w0 w [(gd, .cells #[.int .u32 tk, .int .u32 hs, vP, vC] 41 (0, 0)), (B0, .cells #[.int .u32 0, .int .u32 0, .slice none 0 0, .slice none 0 0] 41 (0, 0))] [] ∧
    (Kd.int .u8).R 5 w B (fun _ => True) uP P ∧ k30.R 30 w B (fun _ => True) uC C ∧ B ≤ gd ∧ B0 ≤ ge ∧ ge < B ∧ B0 < ge
section
variable {B0 B ge gd : Nat} {w0 w w' : World} {tk hs : Int} {l l' : List Int} {bad bad' : Bool} {vP vC uP uC u : Value} {P : List Int} {C : List S30}
theorem PSt.le (h : PSt B0 B ge gd w0 w tk hs l bad vP vC uP uC P C) : B ≤ w.heap.size := Nat.le_trans h.2.2.2.2.1 (Nat.le_of_lt (h.2.1.lt (i := 0) rfl))
theorem PSt.below (h : PSt B0 B ge gd w0 w tk hs l bad vP vC uP uC P C) (hb : Below w.heap.size w w') : PSt B0 B ge gd w0 w' tk hs l bad vP vC uP uC P C :=
  ⟨h.1.below (hb.mono h.le) h.le, h.2.1.call hb, Kd.R_below h.2.2.1 hb, Kd.R_below h.2.2.2.1 hb, h.2.2.2.2⟩
theorem PSt.eye (h : PSt B0 B ge gd w0 w tk hs l bad vP vC uP uC P C) (he : EyTo w w' ge B l' bad') : PSt B0 B ge gd w0 w' tk hs l' bad' vP vC uP uC P C := by
  obtain ⟨h1, h2, h3, h4, h5, h6, h7, h8⟩ := h
  have hg := h2.lt (i := 0) rfl
  refine ⟨he.1, h2.rows (r1 := some ge) (r2 := none) (he.2.2.mono h6) ((he.2.1.2 gd hg (by omega) (by simp)).trans (h2.get (i := 0) rfl)) (fun k hk _ hn _ => he.2.1.2 k hk (fun e => hn (by rw [e])) (by simp)) (fun p hp => ?_), R_eye h3 he.2.1 h7, R_eye h4 he.2.1 h7, h5, h6, h7, h8⟩
  obtain rfl := List.mem_singleton.1 hp
  exact ⟨fun e => by injection e with e; omega, by simp⟩
theorem PSt.cellP (h : PSt B0 B ge gd w0 w tk hs l bad vP vC uP uC P C) : w.cell? ⟨gd, 2, none⟩ = some vP := blk_cell (h.2.1.get (i := 0) rfl) 2
theorem PSt.cellC (h : PSt B0 B ge gd w0 w tk hs l bad vP vC uP uC P C) : w.cell? ⟨gd, 3, none⟩ = some vC := blk_cell (h.2.1.get (i := 0) rfl) 3
/-- A row has grown. -/
theorem PSt.rowP {P' : List Int} (h : PSt B0 B ge gd w0 w tk hs l bad vP vC uP uC P C) (hg : w.grownBy w' uP.ownBlock) (hr : (Kd.int .u8).R 5 w' B (fun _ => True) u P') : PSt B0 B ge gd w0 w' tk hs l bad vP vC u uC P' C := by
  obtain ⟨h1, h2, h3, h4, h5, h6, h7, h8⟩ := h
  have hle : B ≤ w.heap.size := Nat.le_trans h5 (Nat.le_of_lt (h2.lt (i := 0) rfl))
  have hbase : ∀ k, uP.ownBlock = some k → B ≤ k := fun k hk => Kd.R_base h3 k hk
  have hb : Below B w w' := (Below.refl B w).grown hg hle hbase
  have n1 := Kd.R_ne h3 (h2.get (i := 0) rfl) (by decide)
  have n2 := Kd.R_ne h3 (h2.get (i := 1) rfl) (by decide)
  refine ⟨h1.below hb hle, h2.rows (r1 := uP.ownBlock) (r2 := none) (hb.mono (by omega)) ((hg.block gd (h2.lt (i := 0) rfl) n1).trans (h2.get (i := 0) rfl)) (fun k hk _ hn _ => hg.block k hk hn) (fun p hp => ?_), hr, Kd.R_grown2 h4 rfl hg (fun k hk => ?_), h5, h6, h7, h8⟩
  · obtain rfl := List.mem_singleton.1 hp
    exact ⟨n2, by simp⟩
  · intro e
    exact ((Kd.R_apartR h3 h4 (by decide)).1 k hk).2 (by rw [e])
theorem PSt.rowC {C' : List S30} (h : PSt B0 B ge gd w0 w tk hs l bad vP vC uP uC P C) (hg : w.grownBy w' uC.ownBlock) (hr : k30.R 30 w' B (fun _ => True) u C') : PSt B0 B ge gd w0 w' tk hs l bad vP vC uP u P C' := by
  obtain ⟨h1, h2, h3, h4, h5, h6, h7, h8⟩ := h
  have hle : B ≤ w.heap.size := Nat.le_trans h5 (Nat.le_of_lt (h2.lt (i := 0) rfl))
  have hbase : ∀ k, uC.ownBlock = some k → B ≤ k := fun k hk => Kd.R_base h4 k hk
  have hb : Below B w w' := (Below.refl B w).grown hg hle hbase
  have n1 := Kd.R_ne h4 (h2.get (i := 0) rfl) (by decide)
  have n2 := Kd.R_ne h4 (h2.get (i := 1) rfl) (by decide)
  refine ⟨h1.below hb hle, h2.rows (r1 := uC.ownBlock) (r2 := none) (hb.mono (by omega)) ((hg.block gd (h2.lt (i := 0) rfl) n1).trans (h2.get (i := 0) rfl)) (fun k hk _ hn _ => hg.block k hk hn) (fun p hp => ?_), Kd.R_grown2 h3 rfl hg (fun k hk => ?_), hr, h5, h6, h7, h8⟩
  · obtain rfl := List.mem_singleton.1 hp
    exact ⟨n2, by simp⟩
  · intro e
    exact ((Kd.R_apartR h3 h4 (by decide)).1 k (by rw [← e])).2 hk.symm
theorem PSt.setP (h : PSt B0 B ge gd w0 w tk hs l bad vP vC uP uC P C) : PSt B0 B ge gd w0 (w.setCell ⟨gd, 2, none⟩ uP) tk hs l bad uP vC uP uC P C := by
  obtain ⟨h1, h2, h3, h4, h5, h6, h7, h8⟩ := h
  have hle : B ≤ w.heap.size := Nat.le_trans h5 (Nat.le_of_lt (h2.lt (i := 0) rfl))
  have n1 := Kd.R_ne h3 (h2.get (i := 0) rfl) (by decide)
  have n2 := Kd.R_ne h4 (h2.get (i := 0) rfl) (by decide)
  exact ⟨h1.below ((Below.refl B w).setCell h5 _) hle, h2.setCell (i := 0) rfl 2 uP, Kd.R_grown2 h3 rfl (grown_setCell _ _ _ _) (fun k hk => by cases hk; exact n1), Kd.R_grown2 h4 rfl (grown_setCell _ _ _ _) (fun k hk => by cases hk; exact n2), h5, h6, h7, h8⟩
theorem PSt.setC (h : PSt B0 B ge gd w0 w tk hs l bad vP vC uP uC P C) : PSt B0 B ge gd w0 (w.setCell ⟨gd, 3, none⟩ uC) tk hs l bad vP uC uP uC P C := by
  obtain ⟨h1, h2, h3, h4, h5, h6, h7, h8⟩ := h
  have hle : B ≤ w.heap.size := Nat.le_trans h5 (Nat.le_of_lt (h2.lt (i := 0) rfl))
  have n1 := Kd.R_ne h3 (h2.get (i := 0) rfl) (by decide)
  have n2 := Kd.R_ne h4 (h2.get (i := 0) rfl) (by decide)
  exact ⟨h1.below ((Below.refl B w).setCell h5 _) hle, h2.setCell (i := 0) rfl 3 uC, Kd.R_grown2 h3 rfl (grown_setCell _ _ _ _) (fun k hk => by cases hk; exact n1), Kd.R_grown2 h4 rfl (grown_setCell _ _ _ _) (fun k hk => by cases hk; exact n2), h5, h6, h7, h8⟩
end
end Go.Proofs.Ytkhlalpkkmjfnaa
