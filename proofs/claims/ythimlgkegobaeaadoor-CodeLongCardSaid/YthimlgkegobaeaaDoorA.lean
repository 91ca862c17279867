/- Own words of this claim: rows that are read, element by element; small laws on bits. -/
import Derived.Test.YthimlgkegobaeaaDoorWWords
import Derived.Test.YthimlgkegobaeaaDoorWLast
import Derived.Test.YthimlgkegobaeaaDoorWMore
import Derived.Test.YthimlgkegobaeaaDoorWKept
import Derived.Test.YthimlgkegobaeaaDoorWShare
import Derived.Test.YthimlgkegobaeaaDoorWN
import Derived.Test.YthimlgkegobaeaaDoorWNEv
import Derived.WalkKit
import Derived.LoopTactic
import Derived.Lib.Hide
import Derived.Laws.BitsAllLaws
import Derived.Deep.RegionHeld3
namespace Go.Proofs.YthimlgkegobaeaaDoor
open Go.RowKit Go.Proofs.YthimlgkegobaeaaDoorW.PrintWords Go.Proofs.YthimlgkegobaeaaDoorW.PrintLast Go.Proofs.YthimlgkegobaeaaDoorW.PrintMore

/-- All are bytes. -/
def Bytes (l : List Int) : Prop := ∀ b ∈ l, 0 ≤ b ∧ b < 256
theorem Bytes.nat {l : List Int} (h : Bytes l) {j : Nat} (hj : j < l.length) : ∃ n : Nat, l[j] = (n : Int) ∧ n < 256 := by
  have := h _ (List.getElem_mem hj)
  exact ⟨l[j].toNat, by omega, by omega⟩
theorem Bytes.append {a b : List Int} (ha : Bytes a) (hb : Bytes b) : Bytes (a ++ b) := fun x hx => (List.mem_append.1 hx).elim (ha x) (hb x)
theorem Bytes.take {a : List Int} (ha : Bytes a) (k : Nat) : Bytes (a.take k) := fun x hx => ha x (List.mem_of_mem_take hx)
theorem Bytes.drop {a : List Int} (ha : Bytes a) (k : Nat) : Bytes (a.drop k) := fun x hx => ha x (List.mem_of_mem_drop hx)
theorem Bytes.nil : Bytes [] := fun x hx => by cases hx
theorem Bytes.flatten {l : List (List Int)} (h : ∀ p ∈ l, Bytes p) : Bytes l.flatten := fun x hx => by
  obtain ⟨p, hp, hxp⟩ := List.mem_flatten.1 hx
  exact h p hp x hxp

theorem rd_getElem {xs : List Int} {j : Nat} (h : j < xs.length) : rd xs (j : Int) = xs[j] := by
  unfold rd; rw [List.getD_eq_getElem?_getD, Int.toNat_natCast, List.getElem?_eq_getElem h]; rfl
theorem take_snoc {α : Type} {xs : List α} {j : Nat} (h : j < xs.length) : xs.take (j + 1) = xs.take j ++ [xs[j]] := List.take_succ_eq_append_getElem h

/-- An element of a row of whole numbers that is read. -/
theorem int_at {k : IntKind} {w : World} {A : Option Addr} {n : Nat} {xs : List Int} (h : (Kd.int k).C w A n xs) (j : Nat) (hj : j < xs.length) : ∃ ad, A = some ad ∧ w.cell? (ad.add j) = some (.int k xs[j]) := by
  have hn := h.1
  obtain ⟨ad, e, hc⟩ := Kd.at_int h (j : Int) (by omega) (by omega)
  rw [rd_getElem hj, Int.toNat_natCast] at hc
  exact ⟨ad, e, hc⟩
/-- An element of a row of rows that is read. -/
theorem row_at {α : Type} {d : Kd α} {e : Nat} {w : World} {A : Option Addr} {n : Nat} {xs : List (List α)} (h : (Kd.slice e d).C w A n xs) (j : Nat) (hj : j < xs.length) :
    ∃ ad A0 c0, A = some ad ∧ w.cell? (ad.add j) = some (.slice A0 xs[j].length c0) ∧ xs[j].length ≤ c0 ∧ d.C w A0 xs[j].length xs[j] := by
  have hn := h.1
  obtain ⟨ad, c, e, _, hK, hc0⟩ := Kd.C_get h ([] : List α) (j : Int) (by omega) (by omega)
  have hc : ∀ i u, c[i]? = some u → w.cell? (ad.add (((j : Int)).toNat * 1 + i)) = some u := hc0
  have hx : xs.getD ((j : Int)).toNat [] = xs[j] := by rw [List.getD_eq_getElem?_getD, Int.toNat_natCast, List.getElem?_eq_getElem hj]; rfl
  rw [hx] at hK
  obtain ⟨A0, c0, rfl, l0, g0⟩ := hK
  exact ⟨ad, A0, c0, e, by have hq := hc 0 _ rfl; rwa [Nat.mul_one, Nat.add_zero, Int.toNat_natCast] at hq, l0, g0⟩

theorem C_none {α : Type} {d : Kd α} {w : World} {n : Nat} {xs : List α} (h : d.C w none n xs) : xs = [] := by
  have h1 := h.1
  cases xs with
  | nil => rfl
  | cons x l =>
    exfalso
    obtain ⟨ad, e, _⟩ := h.2.2 (by simp at h1; omega)
    cases e
/-- '[]T{}', of no elements. -/
theorem R_made0 {α : Type} (d : Kd α) (e : Nat) (w : World) (base : Nat) (hb : base ≤ w.heap.size) : d.R e (w.alloc (.cells #[] e)) base (fun _ => True) (.slice (some ⟨w.heap.size, 0, none⟩) 0 0) [] :=
  ⟨fun _ _ => trivial, [], World.ownsRow_made w #[] 0 hb (Nat.zero_le _) (by simp), Reps.none _ _⟩

/-- '[]T{x}' of one row x, just made. -/
theorem C_one_row {α : Type} {d : Kd α} {e t : Nat} {W : World} {g : Nat} {A : Option Addr} {n c : Nat} {l : List α} (hg : W.heap.size = g) (h : d.C W A n l) (hc : n ≤ c) :
    (Kd.slice e d).C (W.alloc (.cells #[.slice A n c] t)) (some ⟨g, 0, none⟩) 1 [l] := by
  obtain rfl := h.1
  subst hg
  refine ⟨rfl, by simp, fun _ => ⟨_, rfl, fun j p hj => ?_⟩⟩
  have hj0 : j = 0 := by
    have := (List.getElem?_eq_some_iff.1 hj).1
    simp at this; exact this
  subst hj0
  obtain rfl : l = p := by simpa using hj
  refine ⟨[.slice A l.length c], rfl, ⟨A, c, rfl, hc, Kd.C_alloc h _⟩, fun i u hu => ?_⟩
  have hi0 : i = 0 := by
    have := (List.getElem?_eq_some_iff.1 hu).1
    simp at this; exact this
  subst hi0
  obtain rfl : Value.slice A l.length c = u := by simpa using hu
  show (W.alloc _).cell? ((⟨W.heap.size, 0, none⟩ : Addr).add 0) = _
  rw [add_plain, World.cell?_alloc_at _ _ _ _ rfl]; rfl

/-- A block of whole numbers, read from its begin. -/
theorem C_of_block {k : IntKind} {w : World} {g : Nat} {t : TypeId} {fr : Nat × Nat} {cs : Array Value} {n : Nat} {xs : List Int} (hg : w.heap[g]? = some (.cells cs t fr)) (hx : cs.toList = xs.map (Value.int k) ∧ xs.length = n ∧ n ≤ 9223372036854775807) :
    (Kd.int k).C w (some ⟨g, 0, none⟩) n xs := by
  refine ⟨hx.2.1, hx.2.2, fun _ => ⟨_, rfl, fun j p hj => ⟨[.int k p], rfl, rfl, fun i u hu => ?_⟩⟩⟩
  have hi0 : i = 0 := by
    have := (List.getElem?_eq_some_iff.1 hu).1
    simp at this; exact this
  subst hi0
  obtain rfl : Value.int k p = u := by simpa using hu
  show w.cell? ((⟨g, 0, none⟩ : Addr).add (j * 1 + 0)) = _
  rw [add_plain, Nat.mul_one, Nat.add_zero, cell_of_row w g j cs t fr hg, ← Array.getElem?_toList, hx.1, List.getElem?_map, hj]; rfl

/-- A block of rows, read from its begin. -/
theorem C_of_rows {α : Type} {d : Kd α} {e : Nat} {w : World} {g : Nat} {t : TypeId} {fr : Nat × Nat} {cs : Array Value} {n : Nat} {xs : List (List α)} (hg : w.heap[g]? = some (.cells cs t fr)) (hn : xs.length = n) (hm : n ≤ 9223372036854775807)
    (hx : ∀ (j : Nat) (p : List α), xs[j]? = some p → ∃ A c, cs[j]? = some (Value.slice A p.length c) ∧ p.length ≤ c ∧ d.C w A p.length p) :
    (Kd.slice e d).C w (some ⟨g, 0, none⟩) n xs := by
  refine ⟨hn, hm, fun _ => ⟨_, rfl, fun j p hj => ?_⟩⟩
  obtain ⟨A, c, hc, hl, hC⟩ := hx j p hj
  refine ⟨[.slice A p.length c], rfl, ⟨A, c, rfl, hl, hC⟩, fun i u hu => ?_⟩
  have hi0 : i = 0 := by
    have := (List.getElem?_eq_some_iff.1 hu).1
    simp at this; exact this
  subst hi0
  obtain rfl : Value.slice A p.length c = u := by simpa using hu
  show w.cell? ((⟨g, 0, none⟩ : Addr).add (j * 1 + 0)) = _
  rw [add_plain, Nat.mul_one, Nat.add_zero, cell_of_row w g j cs t fr hg, hc]
theorem C_of_two {α : Type} {d : Kd α} {e : Nat} {w : World} {g : Nat} {t : TypeId} {fr : Nat × Nat} {A B : Option Addr} {n m c c' : Nat} {x y : List α} (hg : w.heap[g]? = some (.cells #[.slice A n c, .slice B m c'] t fr))
    (hx : d.C w A n x) (hc : n ≤ c) (hy : d.C w B m y) (hc' : m ≤ c') : (Kd.slice e d).C w (some ⟨g, 0, none⟩) 2 [x, y] := by
  obtain rfl := hx.1
  obtain rfl := hy.1
  refine C_of_rows hg rfl (by omega) fun j p hj => ?_
  match j with
  | 0 => obtain rfl : x = p := by simpa using hj
         exact ⟨A, c, rfl, hc, hx⟩
  | 1 => obtain rfl : y = p := by simpa using hj
         exact ⟨B, c', rfl, hc', hy⟩
  | j + 2 => simp at hj

section
variable {P : Program} {ops : Array Oper} {o : Oper} {a : Act} {w0 W : World} {Kc : Act → World → Prop} {Q : Exit → Act → World → Prop} {rest : List Oper}
/-- append(v, ys...) of whole numbers, as one step of a region that draws its order. -/
theorem R_app_step (k : IntKind) (base : Nat) (hgd : o.guard = none) (s x : Operand) (t e : TypeId) (bytes : Nat)
    (ho : o.op = .call { callee := .builtin .append, args := #[s, x], argTypes := #[t, t] })
    (ht : P.underlying t = some (.slice e)) (hinfo : (P.info? e).map (fun i => (i.zero, i.size, i.bytes)) = some (some (.int k 0), 1, bytes)) (hb0 : 0 < bytes)
    (v : Value) (xs ys : List Int) (A : Option Addr) (m c : Nat) (ok : Nat → Prop) (hs : a.eval s = v) (hx : a.eval x = .slice A m c)
    (HO : (Kd.int k).R e W base ok v xs) (HR : (Kd.int k).C W A m ys) (hfresh : ∀ k, W.heap.size ≤ k → ok k)
    (HB : Below base w0 W) (hbase : base ≤ W.heap.size) (hl : (xs.length + m) * bytes ≤ 140737488355328)
    (h : ∀ v1 w1, (Kd.int k).R e w1 base ok v1 (xs ++ ys) → Below base w0 w1 → W.grownBy w1 v.ownBlock → (v1.ownBlock = v.ownBlock ∨ ∃ b, v1.ownBlock = some b ∧ W.heap.size ≤ b) → Kc (a.put o.dst v1) w1) :
    if Region.wanted o (yielded ops a.tmps) = true then Oper.wp P o a W Kc Q else Kc (a.put o.dst undef) W :=
  Kd.R_append_rows_step (Kd.int k) (Rr := fun x cs => cs = [.int k x]) base (by simp [Region.wanted, hgd]) s x t e (.int k 0) bytes ho ht hinfo rfl Nat.zero_lt_one hb0 v xs ys A m c ok (fun _ => False) hs hx HO HR (fun _ _ h => h) (fun _ h => h.elim) hfresh HB hbase hl h
/-- The same as an operation of a row. -/
theorem R_app (k : IntKind) (base : Nat) (hgd : o.guard = none) (s x : Operand) (t e : TypeId) (bytes : Nat)
    (ho : o.op = .call { callee := .builtin .append, args := #[s, x], argTypes := #[t, t] })
    (ht : P.underlying t = some (.slice e)) (hinfo : (P.info? e).map (fun i => (i.zero, i.size, i.bytes)) = some (some (.int k 0), 1, bytes)) (hb0 : 0 < bytes)
    (v : Value) (xs ys : List Int) (A : Option Addr) (m c : Nat) (ok : Nat → Prop) (hs : a.eval s = v) (hx : a.eval x = .slice A m c)
    (HO : (Kd.int k).R e W base ok v xs) (HR : (Kd.int k).C W A m ys) (hfresh : ∀ k, W.heap.size ≤ k → ok k)
    (HB : Below base w0 W) (hbase : base ≤ W.heap.size) (hl : (xs.length + m) * bytes ≤ 140737488355328)
    (h : ∀ v1 w1, (Kd.int k).R e w1 base ok v1 (xs ++ ys) → Below base w0 w1 → W.grownBy w1 v.ownBlock → (v1.ownBlock = v.ownBlock ∨ ∃ b, v1.ownBlock = some b ∧ W.heap.size ≤ b) → wpList P ops Q rest (a.put o.dst v1) w1) :
    wpList P ops Q (o :: rest) a W :=
  Kd.R_append_row (Value.int k) (0 : Int) (h1 := fun _ => rfl) (w0 := w0) base hgd s x t e (.int k 0) bytes ho ht hinfo rfl hb0 v xs ys A m c ok hs hx hfresh HO HR HB hbase hl h
end

/-- A block's cells, in every world that has grown out of this one. -/
theorem range_ext {W w' : World} {g : Nat} {cs : List Value} (h : W.rangeAt g 0 cs) (hb : Below W.heap.size W w') : w'.rangeAt g 0 cs ∧ Below W.heap.size W w' :=
  ⟨fun j v hj => pw_cell_below hb (h j v hj), hb⟩
theorem range_of {W : World} {g : Nat} {t : TypeId} {fr : Nat × Nat} {cs : List Value} (h : W.heap[g]? = some (.cells cs.toArray t fr)) : W.rangeAt g 0 cs := fun j v hj => by
  rw [Nat.zero_add, cell_of_row _ _ _ _ _ _ h]; simpa using hj

/-- 'xs[j:]' and 'xs[:j]' of a row of whole numbers that is read, without a case on the capacity. -/
theorem cut_lo {P : Program} (k kl : IntKind) (t e bytes : Nat) (ht : P.underlying t = some (.slice e)) (hinfo : (P.info? e).map (fun i => (i.zero, i.size, i.bytes)) = some (some (.int k 0), 1, bytes)) (A : Option Addr) (n c j : Nat) (hj : j ≤ n) (hc : n ≤ c) :
    ∃ A' : Option Addr, (∀ W : World, (Instr.slice t (.slice A n c) (some (.int kl (j : Int))) none none).run P W = .ok (.slice A' (n - j) (c - j)) W) ∧
      (∀ (w : World) (xs : List Int), (Kd.int k).C w A n xs → (Kd.int k).C w A' (n - j) (xs.drop j)) := by
  obtain ⟨i0, hi, hzz⟩ := Option.map_eq_some_iff.1 hinfo
  simp only [Prod.mk.injEq] at hzz
  obtain ⟨A', h1, h2⟩ := print_cut_of (P := P) (Value.int k) 0 t e kl ht hi hzz.2.1 A n c j hj
  refine ⟨A', h1, fun w xs h => ?_⟩
  obtain rfl := h.1
  exact Kd.C_of_reads (h2 w xs hc (Kd.reads_of_C h))
theorem cut_hi {P : Program} (k kl : IntKind) (t e bytes : Nat) (ht : P.underlying t = some (.slice e)) (hinfo : (P.info? e).map (fun i => (i.zero, i.size, i.bytes)) = some (some (.int k 0), 1, bytes)) (A : Option Addr) (n c j : Nat) (hj : j ≤ n) (hc : n ≤ c) :
    (∀ W : World, (Instr.slice t (.slice A n c) none (some (.int kl (j : Int))) none).run P W = .ok (.slice A j c) W) ∧
      (∀ (w : World) (xs : List Int), (Kd.int k).C w A n xs → (Kd.int k).C w A j (xs.take j)) := by
  obtain ⟨i0, hi, hzz⟩ := Option.map_eq_some_iff.1 hinfo
  simp only [Prod.mk.injEq] at hzz
  have key := fun xs : List Int => fun hx : xs.length = n => print_take_of (P := P) (Value.int k) 0 t e kl ht hi hzz.2.1 A c xs (j : Int) (by omega) (by omega) (by omega)
  refine ⟨fun W => ?_, fun w xs h => ?_⟩
  · have := (key (List.replicate n 0) (by simp)).1 W
    simp only [Int.toNat_natCast, List.length_take, List.length_replicate, Nat.min_eq_left hj] at this
    exact this
  · obtain rfl := h.1
    have := (key xs rfl).2.1 w (Kd.reads_of_C h)
    simp only [Int.toNat_natCast, List.length_take, Nat.min_eq_left hj] at this
    exact Kd.C_of_reads this

theorem ret_int {k : IntKind} {a b : Int} (h : a = b) : Ending.returned (.int k a) = .returned (.int k b) := by rw [h]
theorem u32_flip {s : Nat} (hs : s < 4294967296) : bits .xor .u32 IntKind.u32.max (s : Int) = ((4294967295 - s : Nat) : Int) := by
  show IntKind.u32.wrap ((BitVec.ofInt 32 (4294967295 : Int) ^^^ BitVec.ofInt 32 (s : Int)).toNat : Int) = _
  have e1 : BitVec.ofInt 32 (4294967295 : Int) = BitVec.allOnes 32 := by decide
  have e2 : BitVec.ofInt 32 (s : Int) = BitVec.ofNat 32 s := by simp
  rw [e1, e2, BitVec.allOnes_xor, BitVec.toNat_not, BitVec.toNat_ofNat, IntKind.wrap_u32']
  have : s % 2 ^ 32 = s := Nat.mod_eq_of_lt (by omega)
  rw [this]; omega
end Go.Proofs.YthimlgkegobaeaaDoor
