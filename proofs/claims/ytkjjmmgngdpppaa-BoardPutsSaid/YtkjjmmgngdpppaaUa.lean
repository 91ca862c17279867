/- Boards: words. -/
import Derived.Test.YtkjjmmgngdpppaaR
import Derived.Test.YtkjjmmgngdpppaaA
import Derived.Laws.Tables
import Derived.Laws.CopyOwn
import Derived.Laws.CopyRow
import Derived.Deep.MidRow
namespace Go.Proofs.Ytkjjmmgngdpppaa
open Go.RowKit Go.Proofs.YtkjjmmgngdpppaaW.PrintWords Go.Proofs.YtkjjmmgngdpppaaW.PrintLast Go.Proofs.YtkjjmmgngdpppaaW.PrintMore
set_option linter.unusedVariables false
set_option linter.unusedSimpArgs false

/-! ### copy of elements of any size -/
theorem run_copy_rows {P : Program} (s : Nat) (w : World) (dT sT ty elem : TypeId) (g o dLen dCap : Nat) (a : Addr) (sLen sCap : Nat) (cur : Array Value) (t : TypeId) (cs : List Value)
    (hu : P.underlying dT = some (.slice elem)) (hs : (P.info? elem).map (·.size) = some s)
    (hg : w.heap[g]? = some (.cells cur t (0, 0))) (hn : cs.length = Nat.min sLen dLen * s)
    (hsrc : ∀ j v, cs[j]? = some v → w.cell? (a.add j) = some v) (hfit : o + cs.length ≤ cur.size) (h1 : ∀ v ∈ cs, v.oneCell' = true) :
    (Builtin.copy_ #[dT, sT] ty #[.slice (some ⟨g, o, none⟩) dLen dCap, .slice (some a) sLen sCap]).run P w =
      .ok (goInt (Nat.min sLen dLen)) (w.setRow g (cur.toList.take o ++ cs ++ cur.toList.drop (o + cs.length)).toArray) := by
  have hl := run_loadCells_list (P := P) w a cs hsrc
  have hst := run_storeCells_at P g o t cs 0 cur w hg (by simpa using hfit) h1
  cases hq : P.info? elem with
  | none => simp [hq] at hs
  | some i =>
    have hi : i.size = s := by simpa [hq] using hs
    simp [Builtin.copy_, run_underlying hu, Builtin.lenOf, Builtin.firstCells, sizeOf, typeInfo, hq, hi, ← hn, hl, hst]
theorem wpList_copy_rows {P : Program} (s : Nat) {w : World} {ops : Array Oper} {rest : List Oper} {o : Oper} {a : Act} {Q : Exit → Act → World → Prop} (hgd : o.guard = none) (d x : Operand) (dT sT : TypeId)
    (ho : o.op = .call { callee := .builtin .copy, args := #[d, x], argTypes := #[dT, sT] }) (elem : TypeId) (hu : P.underlying dT = some (.slice elem)) (hsz : (P.info? elem).map (·.size) = some s)
    (g off dLen dCap : Nat) (ad : Addr) (sLen sCap : Nat) (hd : a.eval d = .slice (some ⟨g, off, none⟩) dLen dCap) (hs : a.eval x = .slice (some ad) sLen sCap)
    (cur : Array Value) (t : TypeId) (hg : w.heap[g]? = some (.cells cur t (0, 0))) (cs : List Value) (hn : cs.length = Nat.min sLen dLen * s)
    (hsrc : ∀ j v, cs[j]? = some v → w.cell? (ad.add j) = some v) (hfit : off + cs.length ≤ cur.size) (h1 : ∀ v ∈ cs, v.oneCell' = true)
    (h : wpList P ops Q rest (a.put o.dst (goInt (Nat.min sLen dLen))) (w.setRow g (cur.toList.take off ++ cs ++ cur.toList.drop (off + cs.length)).toArray)) : wpList P ops Q (o :: rest) a w := by
  refine wpList_plain hgd fun K hK => ?_
  have hrun := run_copy_rows (P := P) s w dT sT o.type elem g off dLen dCap ad sLen sCap cur t cs hu hsz hg hn hsrc hfit h1
  unfold Oper.wp
  simp [execOp, ho, resolve, invoke, builtin, hd, hs, hrun, Result.andThen]
  rw [List.append_assoc] at h
  exact hK _ _ h

/-! ### The cells of a board -/
def cellsF (f : Nat → S25) : Nat → List Value
  | 0 => []
  | k + 1 => cellsF f k ++ [.int .i32 (f k).f0, .int .u32 (f k).f1]
theorem cellsF_length (f : Nat → S25) : ∀ k, (cellsF f k).length = 2 * k
  | 0 => rfl
  | k + 1 => by simp only [cellsF, List.length_append, cellsF_length f k, List.length_cons, List.length_nil]; omega
theorem cellsF_lo (f : Nat → S25) : ∀ (k j : Nat), j < k → (cellsF f k)[2 * j]? = some (.int .i32 (f j).f0)
  | 0, j, h => by omega
  | k + 1, j, h => by
    simp only [cellsF]
    by_cases hj : j < k
    · rw [List.getElem?_append_left (by rw [cellsF_length]; omega), cellsF_lo f k j hj]
    · obtain rfl : j = k := by omega
      rw [List.getElem?_append_right (by rw [cellsF_length]; omega), cellsF_length, Nat.sub_self]; rfl
theorem cellsF_hi (f : Nat → S25) : ∀ (k j : Nat), j < k → (cellsF f k)[2 * j + 1]? = some (.int .u32 (f j).f1)
  | 0, j, h => by omega
  | k + 1, j, h => by
    simp only [cellsF]
    by_cases hj : j < k
    · rw [List.getElem?_append_left (by rw [cellsF_length]; omega), cellsF_hi f k j hj]
    · obtain rfl : j = k := by omega
      rw [List.getElem?_append_right (by rw [cellsF_length]; omega), cellsF_length, show 2 * j + 1 - 2 * j = 1 by omega]; rfl
theorem cellsF_congr {f h : Nat → S25} : ∀ {k : Nat}, (∀ i, i < k → f i = h i) → cellsF f k = cellsF h k
  | 0, _ => rfl
  | k + 1, e => by simp only [cellsF]; rw [cellsF_congr (fun i hi => e i (by omega)), e k (by omega)]
theorem cellsF_one (f : Nat → S25) : ∀ k, ∀ v ∈ cellsF f k, v.oneCell' = true
  | 0, v, h => by cases h
  | k + 1, v, h => by
    simp only [cellsF, List.mem_append, List.mem_cons, List.not_mem_nil, or_false] at h
    rcases h with h | rfl | rfl
    · exact cellsF_one f k v h
    · rfl
    · rfl
/-- The cells of a board whose cell k is f k, of which n count. -/
def boardL (f : Nat → S25) (n : Int) : List Value := cellsF f 48 ++ [.int .i64 n]
def boardC (f : Nat → S25) (n : Int) : Array Value := (boardL f n).toArray
theorem boardL_length (f : Nat → S25) (n : Int) : (boardL f n).length = 97 := by simp [boardL, cellsF_length]
theorem boardC_size (f : Nat → S25) (n : Int) : (boardC f n).size = 97 := by simp [boardC, boardL_length]
theorem boardC_congr {f h : Nat → S25} (n : Int) (e : ∀ i, i < 48 → f i = h i) : boardC f n = boardC h n := by unfold boardC boardL; rw [cellsF_congr e]
theorem boardC_one (f : Nat → S25) (n : Int) : (boardC f n).all (fun v => v.oneCell') = true := by
  unfold boardC
  rw [List.all_toArray, List.all_eq_true]
  intro v hv
  simp only [boardL, List.mem_append, List.mem_cons, List.not_mem_nil, or_false] at hv
  rcases hv with h | rfl
  · exact cellsF_one f 48 v h
  · rfl
theorem boardC_lo (f : Nat → S25) (n : Int) {j : Nat} (h : j < 48) : (boardC f n)[2 * j]? = some (.int .i32 (f j).f0) := by
  simp only [boardC, List.getElem?_toArray, boardL]
  rw [List.getElem?_append_left (by rw [cellsF_length]; omega), cellsF_lo f 48 j h]
theorem boardC_hi (f : Nat → S25) (n : Int) {j : Nat} (h : j < 48) : (boardC f n)[2 * j + 1]? = some (.int .u32 (f j).f1) := by
  simp only [boardC, List.getElem?_toArray, boardL]
  rw [List.getElem?_append_left (by rw [cellsF_length]; omega), cellsF_hi f 48 j h]
theorem boardC_n (f : Nat → S25) (n : Int) : (boardC f n)[96]? = some (.int .i64 n) := by
  simp only [boardC, List.getElem?_toArray, boardL]
  rw [List.getElem?_append_right (by rw [cellsF_length]; omega), cellsF_length]; rfl
/-- The cells of a list. -/
def fL (L : List S25) : Nat → S25 := fun k => L.getD k z25
def flatC : List S25 → List Value
  | [] => []
  | c :: L => .int .i32 c.f0 :: .int .u32 c.f1 :: flatC L
theorem flatC_length : ∀ L : List S25, (flatC L).length = 2 * L.length
  | [] => rfl
  | c :: L => by simp only [flatC, List.length_cons, flatC_length L]; omega
theorem flatC_snoc : ∀ (L : List S25) (c : S25), flatC (L ++ [c]) = flatC L ++ [.int .i32 c.f0, .int .u32 c.f1]
  | [], c => rfl
  | d :: L, c => by simp only [List.cons_append, flatC, flatC_snoc L c]
theorem flatC_one : ∀ (L : List S25), ∀ v ∈ flatC L, v.oneCell' = true
  | [], v, h => by cases h
  | c :: L, v, h => by
    simp only [flatC, List.mem_cons] at h
    rcases h with rfl | rfl | h
    · rfl
    · rfl
    · exact flatC_one L v h
theorem cellsF_take (L : List S25) : ∀ k, k ≤ L.length → cellsF (fL L) k = flatC (L.take k)
  | 0, _ => rfl
  | k + 1, h => by
    simp only [cellsF]
    rw [cellsF_take L k (by omega), List.take_succ_eq_append_getElem (by omega), flatC_snoc]
    have : fL L k = L[k] := by unfold fL; rw [List.getD_eq_getElem?_getD, List.getElem?_eq_getElem (by omega)]; rfl
    rw [this]
theorem cellsF_drop (f h : Nat → S25) (m : Nat) : ∀ k, m ≤ k → (∀ i, m ≤ i → i < k → f i = h i) → (cellsF f k).drop (2 * m) = (cellsF h k).drop (2 * m)
  | 0, hm, e => by obtain rfl : m = 0 := by omega
                   rfl
  | k + 1, hm, e => by
    by_cases hk : m = k + 1
    · subst hk
      rw [List.drop_of_length_le (by rw [cellsF_length]; omega), List.drop_of_length_le (by rw [cellsF_length]; omega)]
    · simp only [cellsF]
      rw [List.drop_append_of_le_length (by rw [cellsF_length]; omega), List.drop_append_of_le_length (by rw [cellsF_length]; omega), cellsF_drop f h m k (by omega) (fun i h1 h2 => e i h1 (by omega)), e k (by omega) (by omega)]
theorem cellsF_split (f : Nat → S25) (m : Nat) : ∀ k, m ≤ k → cellsF f m = (cellsF f k).take (2 * m)
  | 0, h => by obtain rfl : m = 0 := by omega
               rfl
  | k + 1, h => by
    by_cases hk : m = k + 1
    · subst hk
      rw [List.take_of_length_le (by rw [cellsF_length]; omega)]
    · simp only [cellsF]
      rw [List.take_append_of_le_length (by rw [cellsF_length]; omega), cellsF_split f m k (by omega)]
theorem cells_copied (L : List S25) (K : Nat) (hl : L.length ≤ K) : flatC L ++ (cellsF (fun _ => z25) K).drop (2 * L.length) = cellsF (fL L) K := by
  have h1 := cellsF_take L L.length (Nat.le_refl _)
  rw [List.take_of_length_le (Nat.le_refl _)] at h1
  rw [← h1, cellsF_drop (fun _ => z25) (fL L) L.length K hl (fun i hi _ => by unfold fL; rw [List.getD_eq_getElem?_getD, List.getElem?_eq_none hi]; rfl), cellsF_split (fL L) L.length K hl, List.take_append_drop]
/-- A board of zeros, upon which a list has been copied. -/
theorem board_copied (L : List S25) (hl : L.length ≤ 48) (n : Int) : (boardL (fun _ => z25) n).take 0 ++ flatC L ++ (boardL (fun _ => z25) n).drop (0 + (flatC L).length) = boardL (fL L) n := by
  rw [flatC_length, Nat.zero_add, List.take_zero, List.nil_append]
  unfold boardL
  rw [List.drop_append_of_le_length (by rw [cellsF_length]; omega), ← List.append_assoc, cells_copied L 48 hl]
theorem set_last {α : Type} (l : List α) (k : Nat) (hk : l.length = k) (a b : α) : (l ++ [a]).set k b = l ++ [b] := by
  subst hk
  rw [List.set_append_right _ _ (Nat.le_refl _), Nat.sub_self, List.set_cons_zero]
theorem boardC_setn (f : Nat → S25) (n m : Int) : (boardC f n).setIfInBounds 96 (.int .i64 m) = boardC f m := by
  apply Array.ext'
  rw [Array.toList_setIfInBounds]
  exact set_last (cellsF f 48) 96 (cellsF_length f 48) _ _
theorem zero_board (w : World) : (zeroValue 30).run Try.prog w = .ok (.agg (boardC (fun _ => z25) 0)) w := by kernel_rfl
theorem board_info (f : Nat → S25) (n : Int) : (Try.prog.info? 30).map (·.size) = some (boardC f n).size := by rw [boardC_size]; kernel_rfl
/-- A board's block. -/
def Bd (w : World) (g : Nat) (f : Nat → S25) (n : Int) : Prop := w.heap[g]? = some (.cells (boardC f n) 30 (0, 0))
theorem Bd.lo {w : World} {g : Nat} {f : Nat → S25} {n : Int} (h : Bd w g f n) {j : Nat} (hj : j < 48) : w.cell? ⟨g, 2 * j, none⟩ = some (.int .i32 (f j).f0) := (blk_cell h (2 * j)).trans (boardC_lo f n hj)
theorem Bd.hi {w : World} {g : Nat} {f : Nat → S25} {n : Int} (h : Bd w g f n) {j : Nat} (hj : j < 48) : w.cell? ⟨g, 2 * j + 1, none⟩ = some (.int .u32 (f j).f1) := (blk_cell h (2 * j + 1)).trans (boardC_hi f n hj)
theorem Bd.num {w : World} {g : Nat} {f : Nat → S25} {n : Int} (h : Bd w g f n) : w.cell? ⟨g, 96, none⟩ = some (.int .i64 n) := (blk_cell h 96).trans (boardC_n f n)
theorem Bd.frozen {w : World} {g : Nat} {f : Nat → S25} {n : Int} (h : Bd w g f n) (i : Nat) : w.frozen? ⟨g, i, none⟩ = false := blk_frozen h i
theorem Bd.setn {w : World} {g : Nat} {f : Nat → S25} {n : Int} (h : Bd w g f n) (m : Int) : Bd (w.setCell ⟨g, 96, none⟩ (.int .i64 m)) g f m := (blk_set h 96 _).trans (by rw [boardC_setn])
end Go.Proofs.Ytkjjmmgngdpppaa
