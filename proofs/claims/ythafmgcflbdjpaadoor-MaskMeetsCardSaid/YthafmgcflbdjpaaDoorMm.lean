/- What MaskMeets compares: three rows that grow beside one another. -/
import Derived.Test.YthafmgcflbdjpaaDoorMl
import Derived.Test.YthafmgcflbdjpaaDoorA
import Derived.Test.YthafmgcflbdjpaaDoorO
namespace Go.Proofs.YthafmgcflbdjpaaDoor
open Go.RowKit Go.Shelf Go.Proofs.YthafmgcflbdjpaaDoorW.PrintWords Go.Proofs.YthafmgcflbdjpaaDoorW.PrintLast Go.Proofs.YthafmgcflbdjpaaDoorW.PrintMore
set_option linter.unusedVariables false
set_option linter.unusedSimpArgs false

/-- Three rows of numbers, of one's own, apart from one another. -/
def Tri (w0 W : World) (a b c : Value) (X Y Z : List Int) : Prop :=
  ((Kd.int .i64).R 3 W w0.heap.size (fun _ => True) a X ∧ (Kd.int .i64).R 3 W w0.heap.size (fun _ => True) b Y ∧ (Kd.int .i64).R 3 W w0.heap.size (fun _ => True) c Z) ∧
  ((∀ k, a.ownBlock = some k → some k ≠ b.ownBlock) ∧ (∀ k, b.ownBlock = some k → some k ≠ c.ownBlock) ∧ (∀ k, c.ownBlock = some k → some k ≠ a.ownBlock)) ∧ Below w0.heap.size w0 W
theorem Tri.rot {w0 W : World} {a b c : Value} {X Y Z : List Int} (h : Tri w0 W a b c X Y Z) : Tri w0 W b c a Y Z X :=
  ⟨⟨h.1.2.1, h.1.2.2, h.1.1⟩, ⟨h.2.1.2.1, h.2.1.2.2, h.2.1.1⟩, h.2.2⟩
theorem Tri.below {w0 W w1 : World} {a b c : Value} {X Y Z : List Int} (h : Tri w0 W a b c X Y Z) (hb : Below W.heap.size W w1) : Tri w0 w1 a b c X Y Z :=
  ⟨⟨Kd.R_below h.1.1 hb, Kd.R_below h.1.2.1 hb, Kd.R_below h.1.2.2 hb⟩, h.2.1, h.2.2.trans (hb.mono h.2.2.size)⟩
theorem Tri.app {w0 W w1 : World} {a b c v1 : Value} {X Y Z X1 : List Int} (h : Tri w0 W a b c X Y Z) (ho : (Kd.int .i64).R 3 w1 w0.heap.size (fun _ => True) v1 X1) (hb : Below w0.heap.size w0 w1)
    (hg : W.grownBy w1 a.ownBlock) (hat : v1.ownBlock = a.ownBlock ∨ ∃ k, v1.ownBlock = some k ∧ W.heap.size ≤ k) : Tri w0 w1 v1 b c X1 Y Z := by
  obtain ⟨⟨h1, h2, h3⟩, ⟨n1, n2, n3⟩, -⟩ := h
  refine ⟨⟨ho, Kd.R_grown2 h2 rfl hg n1, Kd.R_grown2 h3 rfl hg (fun k hk e => n3 k e.symm hk.symm)⟩, ⟨?_, n2, ?_⟩, hb⟩
  · intro k hk e
    rcases hat with e1 | ⟨k1, e1, hk1⟩
    · exact n1 k (e1 ▸ hk) e
    · obtain ⟨i2, o2⟩ := Kd.R_own h2
      have := own_lt o2 k e.symm
      rw [e1] at hk
      injection hk with hk
      omega
  · intro k hk e
    rcases hat with e1 | ⟨k1, e1, hk1⟩
    · exact n3 k hk (by rw [e, e1])
    · obtain ⟨i2, o2⟩ := Kd.R_own h3
      have := own_lt o2 k hk
      rw [e1] at e
      injection e with e
      omega
/-- The numbers below i that a set has. -/
def lst (m i : Nat) : List Int := obsU m 0 i
theorem lst_zero (m : Nat) : lst m 0 = [] := rfl
theorem lst_all (m : Nat) : lst m 32 = obsI m := obsU_all m
theorem lst_succ (m i : Nat) : lst m (i + 1) = lst m i ++ (if m.testBit i then [(i : Int)] else []) := by
  unfold lst obsU
  rw [List.range'_concat, List.filter_append, List.map_append]
  congr 1
  simp only [Nat.one_mul, Nat.zero_add]
  cases h : m.testBit i <;> simp [List.filter_cons, h]
theorem lst_len (m i : Nat) : (lst m i).length ≤ i := by
  unfold lst obsU
  rw [List.length_map]
  exact Nat.le_trans (List.length_filter_le _ _) (by simp)
theorem meet_bit (a b c i : Nat) : (a &&& b &&& c).testBit i = (a.testBit i && b.testBit i && c.testBit i) := by rw [Nat.testBit_and, Nat.testBit_and]
theorem join_bit (a b c i : Nat) : (a ||| b ||| c).testBit i = (a.testBit i || b.testBit i || c.testBit i) := by rw [Nat.testBit_or, Nat.testBit_or]
theorem in_bit_any (A : Option Addr) (c : Nat) (a i : Nat) (hi : i < 32) (w : World) (hr : (Kd.int .i64).C w A (obsI a).length (obsI a)) (hc : (obsI a).length ≤ c) :
    Calls Tryd.prog 14 #[.slice A (obsI a).length c, .int .i64 (i : Int)] w fun e w' => e = .returned (.bool (a.testBit i)) ∧ Below w.heap.size w w' := by
  have h := in_any A c (obsI a) (i : Int) w hr hc (by have : (obsI a).length ≤ 32 := (by rw [obsI_length]; exact obsF_len a); omega)
  rw [mem_obsI a i hi] at h
  exact h
theorem within_lst {a b : Nat} (ha : a < 4294967296) (hb : b < 4294967296) : (lessN a b == 0) = decide (lst (lessN a b) 32 = []) := by
  rw [lst_all]
  by_cases h : lessN a b = 0
  · rw [h]; rfl
  · rw [beq_eq_false_iff_ne.2 h]
    symm; apply decide_eq_false
    intro e
    have := laws_9 (lessN_lt (b := b) ha)
    rw [e] at this
    exact h this.symm
theorem meet2_any (a b c : Nat) (ha : a < 4294967296) (hb : b < 4294967296) (hc : c < 4294967296) (g : Nat) (w : World) (h0 : w.cell? ⟨g, 0, none⟩ = some (.int .u32 b)) (h1 : w.cell? ⟨g, 1, none⟩ = some (.int .u32 c)) :
    Calls Tryd.prog 23 #[.int .u32 a, .slice (some ⟨g, 0, none⟩) 2 2] w fun e w' => e = .returned (.int .u32 (a &&& b &&& c : Nat)) ∧ Below w.heap.size w w' :=
  (mask_Mask_Meet.calls _ _ (some ⟨g, 0, none⟩) 2 (natI [b, c]) _ w (cells_C (by simp [natI]) (by
    intro j hj
    match j, hj with
    | 0, _ => exact h0
    | 1, _ => exact h1)) (by simp [natI]) (meet_f [b, c] (by simp; omega) (by simp) a ha)).mono fun e w' h => ⟨h.1, h.2.below⟩
theorem join2_any (a b c : Nat) (ha : a < 4294967296) (hb : b < 4294967296) (hc : c < 4294967296) (g : Nat) (w : World) (h0 : w.cell? ⟨g, 0, none⟩ = some (.int .u32 b)) (h1 : w.cell? ⟨g, 1, none⟩ = some (.int .u32 c)) :
    Calls Tryd.prog 24 #[.int .u32 a, .slice (some ⟨g, 0, none⟩) 2 2] w fun e w' => e = .returned (.int .u32 (a ||| b ||| c : Nat)) ∧ Below w.heap.size w w' :=
  (mask_Mask_Join.calls _ _ (some ⟨g, 0, none⟩) 2 (natI [b, c]) _ w (cells_C (by simp [natI]) (by
    intro j hj
    match j, hj with
    | 0, _ => exact h0
    | 1, _ => exact h1)) (by simp [natI]) (join_f [b, c] (by simp; omega) (by simp) a ha)).mono fun e w' h => ⟨h.1, h.2.below⟩
theorem meet0_any (a : Nat) (ha : a < 4294967296) (w : World) :
    Calls Tryd.prog 23 #[.int .u32 a, .slice none 0 0] w fun e w' => e = .returned (.int .u32 a) ∧ Below w.heap.size w w' :=
  (mask_Mask_Meet.calls _ _ none 0 (natI []) _ w (by show (Kd.int .u32).C w none 0 []; exact ⟨rfl, by simp, fun h => by simp at h⟩) (by simp [natI]) (meet_f [] (by simp) (by simp) a ha)).mono fun e w' h => ⟨h.1, h.2.below⟩
theorem join0_any (a : Nat) (ha : a < 4294967296) (w : World) :
    Calls Tryd.prog 24 #[.int .u32 a, .slice none 0 0] w fun e w' => e = .returned (.int .u32 a) ∧ Below w.heap.size w w' :=
  (mask_Mask_Join.calls _ _ none 0 (natI []) _ w (by show (Kd.int .u32).C w none 0 []; exact ⟨rfl, by simp, fun h => by simp at h⟩) (by simp [natI]) (join_f [] (by simp) (by simp) a ha)).mono fun e w' h => ⟨h.1, h.2.below⟩
theorem less0 {a : Nat} (ha : a < 4294967296) : lessN a 0 = a := by
  refine eq_of_bits (lessN_lt ha) ha fun i hi => ?_
  rw [lessN_bit a 0 i (by omega) hi, Nat.zero_testBit]; simp
theorem with_obs {a : Nat} (ha : a < 4294967296) (l : List Int) : withN 0 (obsI a ++ l) = withN a l := by
  have e : withN 0 (obsI a ++ l) = withN (withN 0 (obsI a)) l := by unfold withN; rw [List.foldl_append]
  rw [e, laws_9 ha]
section
variable {P : Program} {ops : Array Oper} {o : Oper} {a : Act} {w0 W : World} {Q : Exit → Act → World → Prop} {rest : List Oper} {e : TypeId}
/-- append(v, ys...) of whole numbers, under whatever guard. -/
theorem R_app_g (k : IntKind) (base : Nat) (hw : Region.wanted o (yielded ops a.tmps) = true) (s x : Operand) (t e : TypeId) (bytes : Nat)
    (ho : o.op = .call { callee := .builtin .append, args := #[s, x], argTypes := #[t, t] })
    (ht : P.underlying t = some (.slice e)) (hinfo : (P.info? e).map (fun i => (i.zero, i.size, i.bytes)) = some (some (.int k 0), 1, bytes)) (hb0 : 0 < bytes)
    (v : Value) (xs ys : List Int) (A : Option Addr) (m c : Nat) (ok : Nat → Prop) (hs : a.eval s = v) (hx : a.eval x = .slice A m c)
    (HO : (Kd.int k).R e W base ok v xs) (HR : (Kd.int k).C W A m ys) (hfresh : ∀ k, W.heap.size ≤ k → ok k)
    (HB : Below base w0 W) (hbase : base ≤ W.heap.size) (hl : (xs.length + m) * bytes ≤ 140737488355328)
    (h : ∀ v1 w1, (Kd.int k).R e w1 base ok v1 (xs ++ ys) → Below base w0 w1 → W.grownBy w1 v.ownBlock → (v1.ownBlock = v.ownBlock ∨ ∃ b, v1.ownBlock = some b ∧ W.heap.size ≤ b) → wpList P ops Q rest (a.put o.dst v1) w1) :
    wpList P ops Q (o :: rest) a W :=
  wpList_step fun K hK => Kd.R_append_rows_step (Kd.int k) (Rr := fun x cs => cs = [.int k x]) (Kc := K) base hw s x t e (.int k 0) bytes ho ht hinfo rfl Nat.zero_lt_one hb0 v xs ys A m c ok (fun _ => False) hs hx HO HR (fun _ _ h => h) (fun _ h => h.elim) hfresh HB hbase hl (fun v1 w1 h1 h2 h3 h4 => hK _ _ (h v1 w1 h1 h2 h3 h4))
end
end Go.Proofs.YthafmgcflbdjpaaDoor
