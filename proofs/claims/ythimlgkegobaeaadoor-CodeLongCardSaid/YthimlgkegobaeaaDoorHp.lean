/- The heap of a walk, told whole: the blocks that the call has made and still writes (L), what else is true of its memory and stays so as long as only those blocks, or new ones, change (F). -/
import Derived.Test.YthimlgkegobaeaaDoorA
import Derived.Laws.Tables
import Derived.Laws.CopyOwn
import Derived.Laws.Rows
namespace Go.Proofs.YthimlgkegobaeaaDoor
open Go.RowKit Go.Proofs.YthimlgkegobaeaaDoorW.PrintWords Go.Proofs.YthimlgkegobaeaaDoorW.PrintLast Go.Proofs.YthimlgkegobaeaaDoorW.PrintMore
set_option linter.unusedVariables false

/-- From W to W' only blocks of L have changed, or come new. -/
def Only (L : List (Nat × Obj)) (W W' : World) : Prop := Below 0 W W' ∧ ∀ k, k < W.heap.size → (∀ p ∈ L, p.1 ≠ k) → W'.heap[k]? = W.heap[k]?
def Dist (L : List (Nat × Obj)) : Prop := ∀ (i j : Nat) (p q : Nat × Obj), L[i]? = some p → L[j]? = some q → p.1 = q.1 → i = j
def Hp (B : Nat) (w0 W : World) (L : List (Nat × Obj)) (F : List (World → Prop)) : Prop :=
  Below B w0 W ∧ (∀ p ∈ L, W.heap[p.1]? = some p.2 ∧ B ≤ p.1) ∧ Dist L ∧ B ≤ W.heap.size ∧ ∀ φ ∈ F, ∀ W', Only L W W' → φ W'
section
variable {B : Nat} {w0 W W1 : World} {L : List (Nat × Obj)} {F : List (World → Prop)}
theorem below_zero {B : Nat} {w w1 : World} (h : Below B w w1) : Below 0 w w1 := h.mono (Nat.zero_le _)
theorem Only.refl (L : List (Nat × Obj)) (W : World) : Only L W W := ⟨Below.refl _ _, fun _ _ _ => rfl⟩
theorem Hp.start (w : World) : Hp w.heap.size w w [] [] := ⟨Below.refl _ _, (fun p h => by cases h), (fun i j p q h => by simp at h), Nat.le_refl _, (fun φ h => by cases h)⟩
theorem Hp.bel (h : Hp B w0 W L F) : Below B w0 W := h.1
theorem Hp.le (h : Hp B w0 W L F) : B ≤ W.heap.size := h.2.2.2.1
theorem Hp.get {i g : Nat} {o : Obj} (h : Hp B w0 W L F) (hi : L[i]? = some (g, o)) : W.heap[g]? = some o := (h.2.1 _ (List.mem_of_getElem? hi)).1
theorem Hp.ge {i g : Nat} {o : Obj} (h : Hp B w0 W L F) (hi : L[i]? = some (g, o)) : B ≤ g := (h.2.1 _ (List.mem_of_getElem? hi)).2
theorem Hp.lt {i g : Nat} {o : Obj} (h : Hp B w0 W L F) (hi : L[i]? = some (g, o)) : g < W.heap.size := blk_lt (h.get hi)
theorem Hp.fact {i : Nat} {φ : World → Prop} (h : Hp B w0 W L F) (hi : F[i]? = some φ) : φ W := h.2.2.2.2 φ (List.mem_of_getElem? hi) W (Only.refl _ _)
/-- A step that leaves the blocks of L alone. -/
theorem Hp.call (h : Hp B w0 W L F) (hb : Below W.heap.size W W1) : Hp B w0 W1 L F :=
  ⟨h.1.trans (hb.mono h.le), fun p hp => ⟨blk_below (h.2.1 p hp).1 hb, (h.2.1 p hp).2⟩, h.2.2.1, Nat.le_trans h.le hb.size, fun φ hφ W' ho => h.2.2.2.2 φ hφ W' ⟨(below_zero hb).trans ho.1, fun k hk hn => (ho.2 k (Nat.lt_of_lt_of_le hk hb.size) hn).trans (hb.block k hk)⟩⟩
theorem Hp.drewN (h : Hp B w0 W L F) (n : Nat) : Hp B w0 (W.drewN n) L F := h.call (pw_below_drewN (Below.refl _ _) n)
theorem Hp.drew (h : Hp B w0 W L F) : Hp B w0 W.drew L F := h.call (below_drew (Below.refl _ _))
/-- A new block that isn't kept. -/
theorem Hp.box (h : Hp B w0 W L F) (o : Obj) : Hp B w0 (W.alloc o) L F := h.call (below_alloc (Below.refl _ _) o)
/-- A new block that is kept. -/
theorem Hp.alloc (h : Hp B w0 W L F) (o : Obj) : Hp B w0 (W.alloc o) ((W.heap.size, o) :: L) F := by
  have h1 := h.box o
  refine ⟨h1.1, fun p hp => ?_, ?_, h1.2.2.2.1, fun φ hφ W' ho => ?_⟩
  · rcases List.mem_cons.1 hp with rfl | hp
    · exact ⟨blk_new _ _, h.le⟩
    · exact h1.2.1 p hp
  · intro i j p q hi hj he
    match i, j, hi, hj with
    | 0, 0, _, _ => rfl
    | 0, j + 1, hi, hj =>
      obtain rfl : (W.heap.size, o) = p := by simpa using hi
      have := blk_lt (h.2.1 q (List.mem_of_getElem? (by simpa using hj))).1
      simp only at he; omega
    | i + 1, 0, hi, hj =>
      obtain rfl : (W.heap.size, o) = q := by simpa using hj
      have := blk_lt (h.2.1 p (List.mem_of_getElem? (by simpa using hi))).1
      simp only at he; omega
    | i + 1, j + 1, hi, hj => rw [h.2.2.1 i j p q (by simpa using hi) (by simpa using hj) he]
  · refine h.2.2.2.2 φ hφ W' ⟨(below_zero (below_alloc (Below.refl W.heap.size W) o)).trans ho.1, fun k hk hn => (ho.2 k (by simp; omega) (fun p hp => ?_)).trans (Below.heap_alloc W o k hk)⟩
    rcases List.mem_cons.1 hp with rfl | hp
    · simp only; omega
    · exact hn p hp
/-- Block number i of L has changed, and nothing else. -/
theorem Hp.change {i g : Nat} {o o' : Obj} (h : Hp B w0 W L F) (hi : L[i]? = some (g, o)) (hb : Below 0 W W1) (hz : W1.heap.size = W.heap.size) (hg : W1.heap[g]? = some o') (hk : ∀ k, k ≠ g → W1.heap[k]? = W.heap[k]?) : Hp B w0 W1 (L.set i (g, o')) F := by
  have hge := h.ge hi
  have hmem : ∀ p ∈ L.set i (g, o'), p = (g, o') ∨ (p ∈ L ∧ p.1 ≠ g) := by
    intro p hp
    obtain ⟨j, hj⟩ := List.getElem?_of_mem hp
    by_cases e : i = j
    · subst e
      have hlt : i < L.length := (List.getElem?_eq_some_iff.1 hi).1
      rw [List.getElem?_set_self hlt] at hj
      exact .inl (Option.some.inj hj).symm
    · rw [List.getElem?_set_ne e] at hj
      refine .inr ⟨List.mem_of_getElem? hj, fun hpg => e ?_⟩
      exact h.2.2.1 i j _ _ hi hj hpg.symm
  refine ⟨⟨hb.os.trans h.1.os, hb.tape.trans h.1.tape, hb.output.trans h.1.output, Nat.le_trans h.1.size hb.size, fun k hkB => (hk k (by omega)).trans (h.1.block k hkB)⟩, fun p hp => ?_, ?_, by rw [hz]; exact h.le, fun φ hφ W' ho => ?_⟩
  · rcases hmem p hp with rfl | ⟨hp, hne⟩
    · exact ⟨hg, hge⟩
    · exact ⟨(hk _ hne).trans (h.2.1 p hp).1, (h.2.1 p hp).2⟩
  · intro a b p q ha hb' he
    have key : ∀ (c : Nat) (r : Nat × Obj), (L.set i (g, o'))[c]? = some r → ∃ r', L[c]? = some r' ∧ r'.1 = r.1 := by
      intro c r hc
      by_cases e : i = c
      · subst e
        rw [List.getElem?_set_self (List.getElem?_eq_some_iff.1 hi).1] at hc
        exact ⟨_, hi, by rw [← Option.some.inj hc]⟩
      · rw [List.getElem?_set_ne e] at hc
        exact ⟨r, hc, rfl⟩
    obtain ⟨p', hp1, hp2⟩ := key a p ha
    obtain ⟨q', hq1, hq2⟩ := key b q hb'
    exact h.2.2.1 a b p' q' hp1 hq1 (hp2.trans (he.trans hq2.symm))
  · refine h.2.2.2.2 φ hφ W' ⟨hb.trans ho.1, fun k hkz hn => ?_⟩
    have hkg : k ≠ g := fun e => hn _ (List.mem_of_getElem? hi) e.symm
    refine (ho.2 k (by rw [hz]; exact hkz) (fun p hp => ?_)).trans (hk k hkg)
    rcases hmem p hp with rfl | ⟨hp, _⟩
    · exact fun e => hkg e.symm
    · exact hn p hp
/-- .. at an address of one's own spelling. -/
theorem Hp.allocAt (h : Hp B w0 W L F) (o : Obj) (g : Nat) (hz : W.heap.size = g) : Hp B w0 (W.alloc o) ((g, o) :: L) F := by subst hz; exact h.alloc o
theorem Hp.setRow {i g t : Nat} {cur : Array Value} {fr : Nat × Nat} (h : Hp B w0 W L F) (hi : L[i]? = some (g, .cells cur t fr)) (cs : Array Value) : Hp B w0 (W.setRow g cs) (L.set i (g, .cells cs t fr)) F :=
  h.change hi ⟨rfl, rfl, rfl, by simp [World.setRow], fun k hk => by omega⟩ (by simp [World.setRow]) (setRow_heap _ _ _ _ _ _ (h.get hi)) (fun k hk => setRow_other _ _ _ _ hk)
theorem Hp.setCell {i g t : Nat} {cur : Array Value} (h : Hp B w0 W L F) (hi : L[i]? = some (g, .cells cur t (0, 0))) (j : Nat) (u : Value) : Hp B w0 (W.setCell ⟨g, j, none⟩ u) (L.set i (g, .cells (cur.setIfInBounds j u) t (0, 0))) F :=
  h.change hi ⟨rfl, rfl, rfl, by simp [World.setCell], fun k hk => by omega⟩ (by simp [World.setCell]) (blk_set (h.get hi) j u) (fun k hk => Below.heap_setCell _ _ _ _ hk)
/-- The same block, told otherwise. -/
theorem Hp.alt {i g : Nat} {o o' : Obj} (h : Hp B w0 W L F) (hi : L[i]? = some (g, o)) (e : o = o') : Hp B w0 W (L.set i (g, o')) F := by
  subst e
  have : L.set i (g, o) = L := by
    apply List.ext_getElem?
    intro j
    by_cases hj : i = j
    · subst hj
      rw [List.getElem?_set_self (List.getElem?_eq_some_iff.1 hi).1, hi]
    · rw [List.getElem?_set_ne hj]
  rw [this]; exact h
/-- What was told by a call whose own memory it is. -/
theorem Hp.told {φ : World → Prop} (h : Hp B w0 W L F) (hb : Below W.heap.size W W1) (hst : ∀ W', Below 0 W1 W' → (∀ k, W.heap.size ≤ k → k < W1.heap.size → W'.heap[k]? = W1.heap[k]?) → φ W') : Hp B w0 W1 L (φ :: F) := by
  have h1 := h.call hb
  refine ⟨h1.1, h1.2.1, h1.2.2.1, h1.2.2.2.1, fun ψ hψ W' ho => ?_⟩
  rcases List.mem_cons.1 hψ with rfl | hψ
  · refine hst W' ho.1 (fun k hk1 hk2 => ho.2 k hk2 (fun p hp => ?_))
    have := blk_lt (h.2.1 p hp).1
    omega
  · exact h1.2.2.2.2 ψ hψ W' ho
/-- A row of the callee's own. -/
theorem Hp.row {α : Type} {d : Kd α} {e : Nat} {ok : Nat → Prop} {v : Value} {xs : List α} (h : Hp B w0 W L F) (hb : Below W.heap.size W W1) (hr : d.R e W1 W.heap.size ok v xs) : Hp B w0 W1 L ((fun w => d.R e w B (fun _ => True) v xs) :: F) :=
  h.told hb (fun W' h0 hq => Kd.R_mono (Kd.R_lower (Kd.R_step (Kd.R_mono (Kd.R_bound hr) (fun k hk => (⟨hk.2.1, hk.2.2.1⟩ : W.heap.size ≤ k ∧ k < W1.heap.size))) (fun k hk hlt => hq k hk.1 hk.2)) h.le) (fun _ _ => trivial))
/-- A block that a region has made and filled. -/
theorem Hp.found {g : Nat} {o : Obj} (h : Hp B w0 W L F) (hb : Below W.heap.size W W1) (hg : W.heap.size ≤ g) (ho : W1.heap[g]? = some o) : Hp B w0 W1 ((g, o) :: L) F := by
  have h1 := h.call hb
  refine ⟨h1.1, fun p hp => ?_, ?_, h1.2.2.2.1, fun φ hφ W' hw => ?_⟩
  · rcases List.mem_cons.1 hp with rfl | hp
    · exact ⟨ho, Nat.le_trans h.le hg⟩
    · exact h1.2.1 p hp
  · intro i j p q hi hj he
    match i, j, hi, hj with
    | 0, 0, _, _ => rfl
    | 0, j + 1, hi, hj =>
      obtain rfl : (g, o) = p := by simpa using hi
      have := blk_lt (h.2.1 q (List.mem_of_getElem? (by simpa using hj))).1
      simp only at he; omega
    | i + 1, 0, hi, hj =>
      obtain rfl : (g, o) = q := by simpa using hj
      have := blk_lt (h.2.1 p (List.mem_of_getElem? (by simpa using hi))).1
      simp only at he; omega
    | i + 1, j + 1, hi, hj => rw [h.2.2.1 i j p q (by simpa using hi) (by simpa using hj) he]
  · refine h.2.2.2.2 φ hφ W' ⟨(below_zero hb).trans hw.1, fun k hk hn => (hw.2 k (Nat.lt_of_lt_of_le hk hb.size) (fun p hp => ?_)).trans (hb.block k hk)⟩
    rcases List.mem_cons.1 hp with rfl | hp
    · simp only; omega
    · exact hn p hp
/-- Fewer facts, fewer blocks. -/
theorem Hp.drop {F' : List (World → Prop)} (h : Hp B w0 W L F) (hs : ∀ φ ∈ F', φ ∈ F) : Hp B w0 W L F' := ⟨h.1, h.2.1, h.2.2.1, h.2.2.2.1, fun φ hφ => h.2.2.2.2 φ (hs φ hφ)⟩
/-- A block that isn't written any more. -/
theorem Hp.rest {p : Nat × Obj} (h : Hp B w0 W (p :: L) F) : Hp B w0 W L F :=
  ⟨h.1, fun q hq => h.2.1 q (List.mem_cons_of_mem _ hq), (fun i j p q hi hj he => by have := h.2.2.1 (i + 1) (j + 1) p q (by simpa using hi) (by simpa using hj) he; omega), h.2.2.2.1, fun φ hφ W' ho => h.2.2.2.2 φ hφ W' ⟨ho.1, fun k hk hn => by
    refine ho.2 k hk (fun q hq => hn q (List.mem_cons_of_mem _ hq))⟩⟩
end
/-- What is true everywhere. -/
theorem Hp.always {B : Nat} {w0 W : World} {L : List (Nat × Obj)} {F : List (World → Prop)} (φ : World → Prop) (h : Hp B w0 W L F) (hφ : ∀ W', φ W') : Hp B w0 W L (φ :: F) := ⟨h.1, h.2.1, h.2.2.1, h.2.2.2.1, fun ψ hψ W' hw => by
  rcases List.mem_cons.1 hψ with rfl | hψ
  · exact hφ W'
  · exact h.2.2.2.2 ψ hψ W' hw⟩
/-- A block that isn't written any more, and what is true of it. -/
theorem Hp.freeze {B g : Nat} {w0 W : World} {L : List (Nat × Obj)} {F : List (World → Prop)} {o : Obj} (φ : World → Prop) (h : Hp B w0 W ((g, o) :: L) F) (hφ : ∀ W' : World, W'.heap[g]? = some o → φ W') : Hp B w0 W L (φ :: F) := by
  have h1 := h.rest
  have hg := h.get (i := 0) rfl
  refine ⟨h1.1, h1.2.1, h1.2.2.1, h1.2.2.2.1, fun ψ hψ W' hw => ?_⟩
  rcases List.mem_cons.1 hψ with rfl | hψ
  · refine hφ W' ((hw.2 g (blk_lt hg) (fun p hp e => ?_)).trans hg)
    obtain ⟨i, hi⟩ := List.getElem?_of_mem hp
    have := h.2.2.1 0 (i + 1) (g, o) p rfl (by simpa using hi) e.symm
    omega
  · exact h1.2.2.2.2 ψ hψ W' hw
section
variable {P : Program}
/-- A whole row that is loaded, under whatever guard. -/
theorem wpList_load_row_g {ops : Array Oper} {rest : List Oper} {o : Oper} {a : Act} {w : World} {Q : Exit → Act → World → Prop} (ty : TypeId) (x : Operand) (ho : o.op = .load ty x)
    (g : Nat) (hx : a.eval x = .pointer (some ⟨g, 0, none⟩)) (hgd : Region.wanted o (yielded ops a.tmps) = true) (t : TypeId) (cs : Array Value) (fr : Nat × Nat) (d : TypeDesc) (hg : w.heap[g]? = some (.cells cs t fr))
    (hu : P.underlying ty = some d) (hd : (match d with | .struct _ | .array _ _ => true | _ => false) = true) (hi : (P.info? ty).map (·.size) = some cs.size)
    (h : wpList P ops Q rest (a.put o.dst (.agg cs)) w) : wpList P ops Q (o :: rest) a w :=
  wpList_step fun K hK => by rw [if_pos hgd]; exact wp_load_row ty x ho g hx t cs fr d hg hu hd hi (hK _ _ h)
end
end Go.Proofs.YthimlgkegobaeaaDoor
