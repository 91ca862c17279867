/- Arguments of any plain type (numbers, truth values, slices, structs), opened: kind by kind. -/
import Derived.Test.YthimlgkegobaeaaDoorWWords
import Derived.Test.YthimlgkegobaeaaDoorWLast
import Derived.Test.YthimlgkegobaeaaDoorWMore
import Derived.Deep.Slices
import Derived.ProofKit
import Derived.OpenShut
namespace Go.Proofs.YthimlgkegobaeaaDoor
open Go.RowKit Go.Deep Go.ChangeShapes Go.WideShapes Go.Proofs.YthimlgkegobaeaaDoorW.PrintWords Go.Proofs.YthimlgkegobaeaaDoorW.PrintLast Go.Proofs.YthimlgkegobaeaaDoorW.PrintMore
set_option linter.unusedVariables false

section
variable {H : Type} {α β : Type}
/-- Whatever stands at a type is told by a kind. -/
def Opens (enc : TypeId × Value → H) (P : Program) (w : World) (base : Nat) (held : Bool) (t : TypeId) (k : Kd α) (W : α → Prop) : Prop :=
  ∀ (fuel : Nat) (cs : List Value) (y : DataW H × List MemPlace), DataW.trod enc P w base (fun _ => true) held fuel t cs = some y → ∃ x, k.K w x cs ∧ W x
/-- The fields of a struct, from a place on. -/
def OpensF (enc : TypeId × Value → H) (P : Program) (w : World) (base : Nat) (held : Bool) (fs : List Field) (off : Nat) (k : Kd α) (W : α → Prop) : Prop :=
  ∀ (n : Nat) (cs : List Value), (∀ f ∈ fs, ∃ y, DataW.trod enc P w base (fun _ => true) held n f.type ((cs.drop f.offset).take (P.cellsOf f.type)) = some y) → ∃ x, k.K w x ((cs.drop off).take k.sz) ∧ W x
variable {enc : TypeId × Value → H} {P : Program} {w : World} {base : Nat} {held : Bool} {t : TypeId}
theorem opens_int {k : IntKind} (ht : P.underlying t = some (.int k)) : Opens enc P w base held t (Kd.int k) (fun x => (Lit.int k x).wf = true) := fun fuel cs y h => by
  obtain ⟨n, rfl, _, hw⟩ := DataW.trod_int ht h
  exact ⟨n, rfl, hw⟩
theorem opens_bool (ht : P.underlying t = some .bool) : Opens enc P w base held t Kd.bool (fun _ => True) := fun fuel cs y h => by
  obtain ⟨b, rfl, _⟩ := DataW.trod_bool ht h
  exact ⟨b, rfl, trivial⟩
theorem Opens.imp {k : Kd α} {W W' : α → Prop} (h : Opens enc P w base held t k W) (hi : ∀ x, W x → W' x) : Opens enc P w base held t k W' := fun fuel cs y hf => by
  obtain ⟨x, h1, h2⟩ := h fuel cs y hf
  exact ⟨x, h1, hi x h2⟩
theorem opens_iso {k : Kd α} {W : α → Prop} (f : β → α) (g : α → β) (hfg : ∀ a, f (g a) = a) (h : Opens enc P w base held t k W) : Opens enc P w base held t (Kd.iso k f) (fun b => W (f b)) := fun fuel cs y hf => by
  obtain ⟨x, h1, h2⟩ := h fuel cs y hf
  refine ⟨g x, ?_, by show W (f (g x)); rw [hfg]; exact h2⟩
  show k.K w (f (g x)) cs
  rw [hfg]; exact h1
theorem opensF_one {f : Field} {off : Nat} {k : Kd α} {W : α → Prop} (ho : f.offset = off) (hc : P.cellsOf f.type = k.sz) (h : Opens enc P w base held f.type k W) : OpensF enc P w base held [f] off k W := fun n cs hf => by
  obtain ⟨y, hy⟩ := hf f (List.mem_singleton.2 rfl)
  rw [ho, hc] at hy
  exact h n _ y hy
theorem opensF_cons {f : Field} {fs : List Field} {off : Nat} {k : Kd α} {k2 : Kd β} {W : α → Prop} {W2 : β → Prop} (ho : f.offset = off) (hc : P.cellsOf f.type = k.sz) (h : Opens enc P w base held f.type k W) (h2 : OpensF enc P w base held fs (off + k.sz) k2 W2) :
    OpensF enc P w base held (f :: fs) off (Kd.pair k k2) (fun x => W x.1 ∧ W2 x.2) := fun n cs hf => by
  obtain ⟨y, hy⟩ := hf f List.mem_cons_self
  rw [ho, hc] at hy
  obtain ⟨a, a1, a2⟩ := h n _ y hy
  obtain ⟨b, b1, b2⟩ := h2 n cs (fun f' hf' => hf f' (List.mem_cons_of_mem _ hf'))
  refine ⟨(a, b), ⟨_, _, ?_, a1, b1⟩, a2, b2⟩
  show (cs.drop off).take (k.sz + k2.sz) = _
  rw [List.take_add, List.drop_drop]
theorem opens_struct {fs : Array Field} {k : Kd α} {W : α → Prop} (ht : P.underlying t = some (.struct fs)) (hc : P.cellsOf t = k.sz) (h : OpensF enc P w base held fs.toList 0 k W) : Opens enc P w base held t k W := fun fuel cs y hf => by
  obtain ⟨xs, n, _, _, hl, hxl, hf'⟩ := DataW.trod_struct ht hf
  obtain ⟨x, h1, h2⟩ := h n cs (fun f hm => by
    obtain ⟨i, hi, rfl⟩ := List.getElem_of_mem hm
    have hi' : i < xs.length := by rw [hxl]; simpa using hi
    refine ⟨xs[i], ?_⟩
    rw [hf' i _ (by rw [← Array.getElem?_toList, List.getElem?_eq_getElem hi]), List.getElem?_eq_getElem hi'])
  rw [List.drop_zero, List.take_of_length_le (by omega)] at h1
  exact ⟨x, h1, h2⟩
theorem opens_row {e : TypeId} {k : Kd α} {W : α → Prop} [Inhabited α] (ht : P.underlying t = some (.slice e)) (hc : P.cellsOf e = k.sz) (h : Opens enc P w base held e k W) {fuel : Nat} {a : Option Addr} {len cap : Nat} {y : DataW H × List MemPlace}
    (hf : DataW.trod enc P w base (fun _ => true) held fuel t [.slice a len cap] = some y) : ∃ l : List α, k.C w a len l ∧ len ≤ cap ∧ ∀ x ∈ l, W x := by
  have hm : (maxLen : Nat) = 9223372036854775807 := rfl
  rcases open_slice ht hf with ⟨hcs, _⟩ | ⟨x, n, c, m, q, D, Pl, hcs, _, hl, hcm, hmm, _, hel⟩
  · simp only [List.cons.injEq, Value.slice.injEq, and_true] at hcs
    obtain ⟨rfl, rfl, rfl⟩ := hcs
    exact ⟨[], Kd.C_nil _ _, Nat.le_refl _, fun x hx => by cases hx⟩
  · simp only [List.cons.injEq, Value.slice.injEq, and_true] at hcs
    obtain ⟨rfl, rfl, rfl⟩ := hcs
    simp only [if_true] at hmm
    have each : ∀ i, i < m → ∃ z : α, W z ∧ ∃ cs', k.K w z cs' ∧ cs'.length = k.sz ∧ ∀ j u, cs'[j]? = some u → w.cell? (x.add (i * k.sz + j)) = some u := by
      intro i hi
      obtain ⟨cs', h1, h2⟩ := hel i hi
      rw [hc] at h1
      obtain ⟨_, hlen, hcell⟩ := World.cells?_some h1
      obtain ⟨z, z1, z2⟩ := h q cs' _ h2
      refine ⟨z, z2, cs', z1, hlen, fun j u hu => ?_⟩
      have hj : j < cs'.length := (List.getElem?_eq_some_iff.1 hu).1
      have := hcell j (by omega)
      rw [Go.Deep.add_add] at this
      rw [this, hu]
    obtain ⟨z, hz⟩ := choose_lt (α := α) each
    refine ⟨(List.range len).map z, ⟨by simp, by omega, fun hn => ⟨x, rfl, fun j p hj => ?_⟩⟩, hl, fun p hp => ?_⟩
    · have hjl : j < len := by
        have := (List.getElem?_eq_some_iff.1 hj).1
        simpa using this
      rw [List.getElem?_map, List.getElem?_range hjl] at hj
      obtain rfl : z j = p := by simpa using hj
      obtain ⟨_, cs', q1, q2, q3⟩ := hz j (by omega)
      exact ⟨cs', q2, q1, q3⟩
    · obtain ⟨j, hj, rfl⟩ := List.mem_map.1 hp
      exact (hz j (by have := List.mem_range.1 hj; omega)).1
theorem opens_slice {e : TypeId} {k : Kd α} {W : α → Prop} [Inhabited α] (ht : P.underlying t = some (.slice e)) (hc : P.cellsOf e = k.sz) (h : Opens enc P w base held e k W) : Opens enc P w base held t (Kd.slice e k) (fun l => ∀ x ∈ l, W x) := fun fuel cs y hf => by
  have hform : ∃ a len cap, cs = [.slice a len cap] := by
    rcases open_slice ht hf with ⟨hcs, _⟩ | ⟨x, n, c, m, q, D, Pl, hcs, _⟩
    · exact ⟨_, _, _, hcs⟩
    · exact ⟨_, _, _, hcs⟩
  obtain ⟨a, len, cap, rfl⟩ := hform
  obtain ⟨l, hl, hcap, hW⟩ := opens_row ht hc h hf
  obtain rfl := hl.1
  exact ⟨l, ⟨a, cap, rfl, hcap, hl⟩, hW⟩
/-- A struct that is handed in by value. -/
theorem open_value {fs : Array Field} {k : Kd α} {W : α → Prop} {r : Reach} {b0 : Nat} {v : Value} {d : DataW H} {ps : List MemPlace} (ht : P.underlying t = some (.struct fs)) (h : Opens enc P w base held t k W) (hv : Value.okWide P w r b0 t v)
    (hd : DataW.Trod enc P w base (fun _ => true) held t v d ps) : ∃ (x : α) (cs : List Value), v = .agg cs.toArray ∧ k.K w x cs ∧ W x := by
  obtain ⟨cs, rfl, _⟩ := okWide_struct ht hv
  obtain ⟨fuel, hf⟩ := hd
  obtain ⟨x, h1, h2⟩ := h fuel _ _ hf
  exact ⟨x, cs.toList, by simp, h1, h2⟩
theorem open_slice_arg {e : TypeId} {k : Kd α} {W : α → Prop} [Inhabited α] {a : Option Addr} {len cap : Nat} {d : DataW H} {ps : List MemPlace} (ht : P.underlying t = some (.slice e)) (hc : P.cellsOf e = k.sz) (h : Opens enc P w base held e k W)
    (hd : DataW.Trod enc P w base (fun _ => true) held t (.slice a len cap) d ps) : ∃ l : List α, k.C w a len l ∧ len ≤ cap ∧ ∀ x ∈ l, W x := by
  obtain ⟨fuel, hf⟩ := hd
  exact opens_row ht hc h hf
end
end Go.Proofs.YthimlgkegobaeaaDoor
