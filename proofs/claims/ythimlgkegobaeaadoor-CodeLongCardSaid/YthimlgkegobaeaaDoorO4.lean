/- A region that draws its order and writes what was there: one obligation for each operation (the law 'region_all3' of O3 in lists). -/
import Derived.Test.YthimlgkegobaeaaDoorO3
import Derived.Test.YthimlgkegobaeaaDoorO2
namespace Go.Proofs.YthimlgkegobaeaaDoor
open Go.RowKit Go.Proofs.YthimlgkegobaeaaDoorW.PrintWords Go.Proofs.YthimlgkegobaeaaDoorW.PrintLast Go.Proofs.YthimlgkegobaeaaDoorW.PrintMore
set_option linter.unusedVariables false

/-- The operations that write into old blocks: number, block, what else is known of the step. -/
abbrev Writes := List (Nat × Option Nat × (World → World → Prop))
def StepW : Writes → Nat → World → World → Prop
  | [], _, w, w' => Below w.heap.size w w'
  | (k, row, E) :: l, q, w, w' => if q = k then (w.grownBy w' row ∧ E w w') ∨ w' = w else StepW l q w w'
theorem StepW.refl : ∀ (l : Writes) (q : Nat) (w : World), StepW l q w w
  | [], _, w => Below.refl _ _
  | (k, row, E) :: l, q, w => by
    unfold StepW
    split
    · exact .inr rfl
    · exact StepW.refl l q w
/-- What outlives the steps of the others. -/
def StabW (i : Nat) (p : World → Value → Prop) : Writes → Prop
  | [] => ∀ w w' v, Below w.heap.size w w' → p w v → p w' v
  | (k, row, E) :: l => (k ≠ i → ∀ w w' v, w.grownBy w' row → E w w' → p w v → p w' v) ∧ StabW i p l
theorem StabW.step {i : Nat} {p : World → Value → Prop} : ∀ {l : Writes} {q : Nat} {w w' : World} {v : Value}, StabW i p l → i ≠ q → StepW l q w w' → p w v → p w' v
  | [], q, w, w', v, h, hne, hs, hp => h w w' v hs hp
  | (k, row, E) :: l, q, w, w', v, h, hne, hs, hp => by
    unfold StepW at hs
    split at hs
    · rename_i e
      rcases hs with ⟨hg, he⟩ | rfl
      · exact h.1 (fun e2 => hne (by rw [e, e2])) w w' v hg he hp
      · exact hp
    · exact h.2.step hne hs hp
theorem StabW.const {i : Nat} {p : Value → Prop} : ∀ (l : Writes), StabW i (fun _ v => p v) l
  | [] => fun _ _ _ _ h => h
  | (k, row, E) :: l => ⟨fun _ _ _ _ _ _ h => h, StabW.const l⟩
/-- .. until the operation is carried out. -/
def StabU (ops : Array Oper) (i : Nat) (p : World → Prop) : Writes → Prop
  | [] => ∀ w w', Below w.heap.size w w' → p w → p w'
  | (k, row, E) :: l => (k ≠ i → (∀ o, ops[k]? = some o → depOn o i = false) → ∀ w w', w.grownBy w' row → E w w' → p w → p w') ∧ StabU ops i p l
theorem StabU.step {ops : Array Oper} {i : Nat} {p : World → Prop} : ∀ {l : Writes} {q : Nat} {w w' : World} {o : Oper}, StabU ops i p l → i ≠ q → ops[q]? = some o → depOn o i = false → StepW l q w w' → p w → p w'
  | [], q, w, w', o, h, hne, ho, hd, hs, hp => h w w' hs hp
  | (k, row, E) :: l, q, w, w', o, h, hne, ho, hd, hs, hp => by
    unfold StepW at hs
    split at hs
    · rename_i e
      rcases hs with ⟨hg, he⟩ | rfl
      · refine h.1 (fun e2 => hne (by rw [e, e2])) (fun o2 ho2 => ?_) w w' hg he hp
        rw [← e, ho] at ho2
        rw [← Option.some.inj ho2]; exact hd
      · exact hp
    · exact h.2.step hne ho hd hs hp
theorem StabU.true {ops : Array Oper} {i : Nat} : ∀ (l : Writes), StabU ops i (fun _ => True) l
  | [] => fun _ _ _ h => h
  | (k, row, E) :: l => ⟨fun _ _ _ _ _ _ h => h, StabU.true l⟩
/-- An operation: what it tells (V), what is true of a value that it reads (X: j, and of what), what holds until it is carried out (U). -/
structure Op3 where
  V : World → Value → Prop
  X : Option (Nat × (World → Value → Prop))
  U : World → Prop
def op0 : Op3 := ⟨fun _ _ => True, none, fun _ => True⟩
def Op3.Xp (x : Op3) : World → (Nat → Value) → Prop := match x.X with | none => fun _ _ => True | some (j, p) => fun w vs => p w (vs j)
def Op3.stab (ops : Array Oper) (wr : Writes) (i : Nat) (x : Op3) : Prop :=
  StabW i x.V wr ∧ (match x.X with | none => True | some (j, p) => StabW i p wr ∧ (∀ o, ops[i]? = some o → depOn o j = true)) ∧ StabU ops i x.U wr
def stabAll (ops : Array Oper) (wr : Writes) : Nat → List Op3 → Prop
  | _, [] => True
  | i, x :: l => x.stab ops wr i ∧ stabAll ops wr (i + 1) l
theorem stabAll.at_ {ops : Array Oper} {wr : Writes} : ∀ (l : List Op3) (k i : Nat), stabAll ops wr k l → (l.getD i op0).stab ops wr (k + i)
  | [], k, i, _ => by
    have : ([] : List Op3).getD i op0 = op0 := by simp
    rw [this]
    exact ⟨StabW.const _, trivial, StabU.true _⟩
  | x :: l, k, 0, h => h.1
  | x :: l, k, i + 1, h => by
    have := stabAll.at_ l (k + 1) i h.2
    rw [List.getD_cons_succ]
    rw [show k + 1 + i = k + (i + 1) by omega] at this
    exact this
section
variable (P : Program) (ops : Array Oper) (a0 : Act) (yv : Nat → Option Bool) (C : World → Prop) (wr : Writes) (L : List Op3)
/-- What is owed for one operation. -/
def Hop3 (i : Nat) (o : Oper) : Prop :=
  ∀ (vs : Nat → Value) w, C w → (∀ j, depOn o j = true → (L.getD j op0).V w (vs j) ∧ (L.getD j op0).Xp w vs) → (L.getD i op0).U w → (∀ k o', ops[k]? = some o' → depOn o' i = true → (L.getD k op0).U w) →
    if wants yv o = true then runs P o (rho ops a0 (depOn o) vs) w (fun v w' => C w' ∧ StepW wr i w w' ∧ (L.getD i op0).V w' v ∧ (L.getD i op0).Xp w' (fun k => if k = i then v else vs k)) else (L.getD i op0).V w undef ∧ (L.getD i op0).Xp w (fun k => if k = i then undef else vs k)
def Hop3All : Nat → List Oper → Prop
  | _, [] => True
  | i, o :: l => Hop3 P ops a0 yv C wr L i o ∧ Hop3All (i + 1) l
end
theorem Hop3All.at_ {P : Program} {ops : Array Oper} {a0 : Act} {yv : Nat → Option Bool} {C : World → Prop} {wr : Writes} {L : List Op3} : ∀ (l : List Oper) (k i : Nat) (o : Oper), Hop3All P ops a0 yv C wr L k l → l[i]? = some o → Hop3 P ops a0 yv C wr L (k + i) o
  | [], k, i, o, _, h => by simp at h
  | x :: l, k, 0, o, h, ho => by
    obtain rfl : x = o := by simpa using ho
    exact h.1
  | x :: l, k, i + 1, o, h, ho => by
    have := Hop3All.at_ l (k + 1) i o h.2 (by simpa using ho)
    rw [show k + 1 + i = k + (i + 1) by omega] at this
    exact this
theorem region3 {P : Program} {ops : Array Oper} {Q : Exit → Act → World → Prop} {a0 : Act} {id : Nat} {W : World} (L : List Op3) (wr : Writes) (yv : Nat → Option Bool) (C : World → Prop) (D : List (Nat × Option Tmp)) (G : List Nat)
    (hm : P.follows .mixedOrders = true) (hok : regionOk ops a0.tmps.size = true) (hD : (List.range ops.size).map (fun i => (i, dstOf ops i)) = D) (hG : (ops.all fun o => match o.guard with | none => true | some (j, _) => G.contains j) = true)
    (h0 : C W.drew) (hU : ∀ i, i < ops.size → (L.getD i op0).U W.drew)
    (hyv : ∀ j ∈ G, ∀ w v, (L.getD j op0).V w v → boolOf v = yv j)
    (hst : stabAll ops wr 0 L) (hop : Hop3All P ops a0 yv C wr L 0 ops.toList)
    (hend : ∀ (vs : Nat → Value) w, C w → (∀ i, i < ops.size → (L.getD i op0).V w (vs i)) → (∀ i, i < ops.size → (L.getD i op0).Xp w vs) → Q .normal (putAll vs D a0) w) : (Code.region id ops true).wp P Q a0 W := by
  have hs : ∀ i, (L.getD i op0).stab ops wr i := fun i => by have := stabAll.at_ L 0 i hst; rwa [Nat.zero_add] at this
  refine region_all3 (fun i => (L.getD i op0).V) (fun i => (L.getD i op0).Xp) (fun i => (L.getD i op0).U) yv C (StepW wr) D hm hok hD (fun i w => StepW.refl wr i w) (fun q i w w' v _ hne hS hV => (hs i).1.step hne hS hV) ?_ ?_ ?_ ?_ h0 hU ?_ hend
  · intro q i w w' vs _ hne hS hX
    have h2 := (hs i).2.1
    unfold Op3.Xp at hX ⊢
    cases hx : (L.getD i op0).X with
    | none => trivial
    | some jp =>
      obtain ⟨j, p⟩ := jp
      rw [hx] at hX h2
      exact h2.1.step hne hS hX
  · intro q i o w w' ho hd _ hne hS hU'
    exact (hs i).2.2.step hne ho hd hS hU'
  · intro i o w vs vs' ho hv hX
    have h2 := (hs i).2.1
    unfold Op3.Xp at hX ⊢
    cases hx : (L.getD i op0).X with
    | none => trivial
    | some jp =>
      obtain ⟨j, p⟩ := jp
      rw [hx] at hX h2
      show p w (vs' j)
      rw [← hv j (.inr (h2.2 o ho))]
      exact hX
  · intro i o j b ho hgd w v hV
    refine hyv j ?_ w v hV
    rw [Array.all_eq_true'] at hG
    have := hG o (Array.mem_of_getElem? ho)
    rw [hgd] at this
    exact List.contains_iff_mem.1 this
  · intro i o ho
    have := Hop3All.at_ ops.toList 0 i o hop (by rw [Array.getElem?_toList]; exact ho)
    rw [Nat.zero_add] at this
    exact this

/-- An append to a row of one's own, under ρ. -/
theorem runs_append {P : Program} {α : Type} (d : Kd α) {Rr : α → List Value → Prop} {o : Oper} {ρ : Operand → Value} {W : World} {R : Value → World → Prop} (base : Nat) (s x : Tmp) (t e : TypeId) (z : Value) (bytes : Nat)
    (ho : o.op = .call { callee := .builtin .append, args := #[.tmp s, .tmp x], argTypes := #[t, t] })
    (ht : P.underlying t = some (.slice e)) (hinfo : (P.info? e).map (fun i => (i.zero, i.size, i.bytes)) = some (some z, d.sz, bytes)) (hz : z.cells.size = d.sz) (hs0 : 0 < d.sz) (hb0 : 0 < bytes)
    (v : Value) (xs ys : List α) (A : Option Addr) (m c : Nat) (ok okp : Nat → Prop) (hs : ρ (.tmp s) = v) (hx : ρ (.tmp x) = .slice A m c)
    (HO : d.R e W base ok v xs) (HR : ReadsRow Rr d.sz W A m ys) (hKM : ∀ x cs, Rr x cs → d.M W base okp x cs) (hokp : ∀ k, okp k → ok k ∧ some k ≠ v.ownBlock) (hfresh : ∀ k, W.heap.size ≤ k → ok k)
    (hbase : base ≤ W.heap.size) (hl : (xs.length + m) * bytes ≤ 140737488355328)
    (h : ∀ v1 w1, d.R e w1 base ok v1 (xs ++ ys) → W.grownBy w1 v.ownBlock → (v1.ownBlock = v.ownBlock ∨ ∃ b, v1.ownBlock = some b ∧ W.heap.size ≤ b) → R v1 w1) : runs P o ρ W R := by
  obtain ⟨N, hN, hN0, hN1⟩ : ∃ N : Act, N.tmps.size = 2 ∧ N.eval (.tmp 0) = v ∧ N.eval (.tmp 1) = .slice A m c := ⟨⟨#[v, .slice A m c], []⟩, rfl, rfl, rfl⟩
  let o' : Oper := { o with dst := some 0, guard := none, op := .call { callee := .builtin .append, args := #[.tmp 0, .tmp 1], argTypes := #[t, t] } }
  have key := Kd.R_append_rows_step (P := P) (o := o') (a := N) (ops := #[]) (Kc := fun a' w' => R (a'.tmps.getD 0 undef) w') (Q := fun _ _ _ => False) (w0 := W) d (Rr := Rr) base (by simp [Region.wanted, o']) (.tmp 0) (.tmp 1) t e z bytes rfl ht hinfo hz hs0 hb0 v xs ys A m c ok okp hN0 hN1 HO HR hKM hokp hfresh (Below.refl _ _) hbase hl
    (fun v1 w1 h1 _ h3 h4 => by
      have e0 : ((N.put o'.dst v1).tmps.getD 0 undef) = v1 := by simp [Act.put, o', Array.getD, hN]
      show R ((N.put o'.dst v1).tmps.getD 0 undef) w1
      rw [e0]; exact h v1 w1 h1 h3 h4)
  rw [if_pos (by simp [Region.wanted, o'])] at key
  have e0 : ∀ v1, ((N.put o'.dst v1).tmps.getD 0 undef) = v1 := fun v1 => by simp [Act.put, o', Array.getD, hN]
  unfold runs
  unfold Oper.wp at key
  have e1 : (execOp ρ o).run P W = ((Builtin.append_ #[t, t] o.type #[v, .slice A m c]).run P W).andThen (fun u w' => .ok (Next.value u) w') := by
    unfold execOp
    simp only [ho, resolve, invoke, builtin, Sem.run_bind, Sem.run_pure, Result.andThen_ok, List.map_toArray, List.map_cons, List.map_nil, hs, hx]
  have e2 : (execOp N.eval o').run P W = ((Builtin.append_ #[t, t] o.type #[v, .slice A m c]).run P W).andThen (fun u w' => .ok (Next.value u) w') := by
    unfold execOp
    simp only [o', resolve, invoke, builtin, Sem.run_bind, Sem.run_pure, Result.andThen_ok, List.map_toArray, List.map_cons, List.map_nil, hN0, hN1]
  rw [e1]
  rw [e2] at key
  generalize (Builtin.append_ #[t, t] o.type #[v, .slice A m c]).run P W = r at *
  cases r with
  | ok u w' =>
    simp only [Result.andThen_ok] at key ⊢
    rw [Oper.upon_value, e0] at key
    exact key
  | halt x w' => cases x <;> exact key.elim

theorem StepW.hit {q k : Nat} {row : Option Nat} {E : World → World → Prop} {w w' : World} (hg : w.grownBy w' row) (he : E w w') : ∀ {l : Writes}, l.find? (fun x => x.1 == q) = some (k, row, E) → StepW l q w w'
  | [], h => by simp at h
  | (k2, row2, E2) :: l, h => by
    unfold StepW
    by_cases e : q = k2
    · rw [if_pos e]
      rw [List.find?_cons_of_pos (by simp [e])] at h
      obtain ⟨rfl, rfl, rfl⟩ := by simpa using h
      exact .inl ⟨hg, he⟩
    · rw [if_neg e]
      rw [List.find?_cons_of_neg (by simp; omega)] at h
      exact StepW.hit hg he h
theorem StepW.miss {q : Nat} {w w' : World} (hb : Below w.heap.size w w') : ∀ {l : Writes}, (l.any fun x => x.1 == q) = false → StepW l q w w'
  | [], h => hb
  | (k2, row2, E2) :: l, h => by
    rw [List.any_cons, Bool.or_eq_false_iff] at h
    unfold StepW
    rw [if_neg (by simpa using (fun e : q = k2 => by rw [e] at h; simp at h))]
    exact StepW.miss hb h.2
theorem grown_setCell (w : World) (g j : Nat) (u : Value) : w.grownBy (w.setCell ⟨g, j, none⟩ u) (some g) := ⟨rfl, rfl, rfl, by simp [World.setCell], fun k _ hk => Below.heap_setCell _ _ _ _ (fun e => hk (by rw [e]))⟩
theorem grown_setRow (w : World) (g : Nat) (cs : Array Value) : w.grownBy (w.setRow g cs) (some g) := ⟨rfl, rfl, rfl, by simp [World.setRow], fun k _ hk => setRow_other _ _ _ _ (fun e => hk (by rw [e]))⟩
end Go.Proofs.YthimlgkegobaeaaDoor
