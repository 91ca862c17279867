/- The reference's words of a mask are its words. -/
import Derived.Test.YthafmgcflbdjpaaDoorMj
namespace Go.Proofs.YthafmgcflbdjpaaDoor
open Go.RowKit Go.Shelf Go.Proofs.YthafmgcflbdjpaaDoorW.PrintWords Go.Proofs.YthafmgcflbdjpaaDoorW.PrintLast Go.Proofs.YthafmgcflbdjpaaDoorW.PrintMore
set_option linter.unusedVariables false
set_option linter.unusedSimpArgs false

/-- What has been laid behind the first i. -/
def outT (xs : List (Fin 32)) : ByteArray := ⟨(Lib.join (xs.map fun x => Lib.decDigits x.val) [44]).toArray⟩
theorem loop_acc (b : ByteArray) (i : Nat) (r : List UInt8) : ByteArray.toList.loop b i r = r.reverse ++ b.data.toList.drop i := by
  unfold ByteArray.toList.loop
  split
  · rename_i h
    rw [loop_acc b (i + 1)]
    have h' : i < b.data.toList.length := by simpa using h
    rw [List.drop_eq_getElem_cons h']
    simp [ByteArray.get!]
    have : b.data[i]! = b.data[i]'(by simpa using h) := by simp [getElem!_pos, h]
    simp_all
  · rename_i h
    rw [List.drop_eq_nil_of_le (by simpa using h)]; simp
termination_by b.size - i
theorem ba_toList (b : ByteArray) : b.toList = b.data.toList := by
  show ByteArray.toList.loop b 0 [] = _
  rw [loop_acc]; simp
theorem out_nil : outT [] = ⟨#[]⟩ := by simp [outT, Lib.join]
theorem out_one (x : Fin 32) : outT [x] = tF x := by simp [outT, tF, Lib.join_one]
theorem ba_eq {a b : ByteArray} (h : a.data.toList = b.data.toList) : a = b := by
  cases a; cases b; congr 1; exact Array.toList_inj.1 h
theorem ba_append (a b : ByteArray) : (a ++ b).data.toList = a.data.toList ++ b.data.toList := by
  simp [ByteArray.data_append]
theorem out_snoc (xs : List (Fin 32)) (x : Fin 32) (h : xs ≠ []) : outT (xs ++ [x]) = outT xs ++ ⟨#[44]⟩ ++ tF x := by
  cases xs with
  | nil => exact absurd rfl h
  | cons y r =>
    apply ba_eq
    rw [ba_append, ba_append]
    simp only [outT, tF, List.cons_append, List.map_cons, List.map_append, List.map_nil, Lib.join_cons, Lib.joinTail, List.flatten_append, List.append_assoc]
    simp
theorem out_ne (xs : List (Fin 32)) (h : xs ≠ []) : (outT xs).data.toList ≠ [] := by
  cases xs with
  | nil => exact absurd rfl h
  | cons y r =>
    simp only [outT, List.map_cons, Lib.join_cons]
    intro e
    have e2 := (List.append_eq_nil_iff.1 e).1
    unfold Lib.decDigits at e2
    split at e2 <;> simp at e2
set_option maxHeartbeats 4000000 in
set_option maxRecDepth 100000 in
theorem text05_any (m : Nat) (hm : m < 4294967296) (w : World) :
    Calls Tryd.prog 19 #[.int .u32 m] w fun e w' => e = .returned (.string (textF m)) ∧ Below w.heap.size w w' := by
  have HB := Aside0.mk (Below.refl w.heap.size w)
  have hlen := obsF_len m
  have hli : (obsI m).length = (obsF m).length := by unfold obsI; rw [List.length_map]
  go_enter Tryd.func19, Tryd.ntmps19
  go_wp2_with (go_at_call 10; (with_reducible refine (list_any m hm _).mono ?_); rintro e w1 ⟨A, c, rfl, hle, hR, hC, hb⟩; replace HB := Aside0.mk hb; clear hR hb)
  go_loopw [3, 9] (fun v3 v9 wr => ∃ i : Nat, i ≤ (obsF m).length ∧ v3 = .string (outT ((obsF m).take i)) ∧ v9 = .int .i64 (i : Int) ∧ Aside0 (Below w1.heap.size w1 wr)) (fun v3 v9 _ => ((obsF m).length - intI v9).toNat)
  case atStart => exact ⟨0, by omega, by simp [outT, Lib.join], rfl, ⟨Below.refl _ _⟩⟩
  case round =>
    obtain ⟨i, hi, rfl, rfl, HB1⟩ := hrel
    by_cases hlt : i < (obsF m).length
    · have hiI : i < (obsI m).length := by omega
      obtain ⟨ad, rfl, hcell⟩ := int_at (Kd.C_below hC HB1.out) i hiI
      obtain ⟨x, hx⟩ : ∃ x, (obsF m)[i] = x := ⟨_, rfl⟩
      have hxi : (obsI m)[i] = (x.val : Int) := by simp [obsI, hx]
      rw [hxi] at hcell
      have hd := dec_any x
      have hxl := x.isLt
      have hu : IntKind.u64.wrap (x.val : Int) = (x.val : Int) := by rw [IntKind.wrap_u64]; omega
      obtain ⟨o, ho⟩ : ∃ o, outT ((obsF m).take i) = o := ⟨_, rfl⟩
      have hso : o.size ≤ 96 := by
        rw [← ho]
        have h1 := join_len (((obsF m).take i).map fun x => Lib.decDigits x.val) (by intro y hy; obtain ⟨a, _, rfl⟩ := List.mem_map.1 hy; exact dec_len a)
        simp only [List.length_map, List.length_take] at h1
        show (outT ((obsF m).take i)).data.size ≤ 96
        simp only [outT, List.size_toArray]; omega
      have hst : (tF x).size ≤ 2 := by
        have := dec_len x
        show (tF x).data.size ≤ 2
        simpa using this
      rw [ho]
      go_wp2_with (go_at_call 30; (with_reducible refine (hd _).mono ?_); rintro e w' ⟨rfl, hb⟩)
      · have hne : o.data.toList ≠ [] := by
          intro e
          have e2 : o.toList.isEmpty = true := by rw [ba_toList, e]; rfl
          simp_all
        have hxs : (obsF m).take i ≠ [] := by
          intro e
          rw [e, out_nil] at ho
          exact hne (by rw [← ho])
        have hsn := out_snoc _ x hxs
        rw [← hx, ← List.take_succ_eq_append_getElem hlt, hx, ho] at hsn
        refine ⟨⟨i + 1, by omega, by rw [hsn], by congr 1, ⟨bel_tr HB1.out hb⟩⟩, ?_⟩
        simp only [intI]; omega
      · have hem : o.data.toList = [] := by
          have e2 : o.toList.isEmpty = true := by simp_all
          rw [ba_toList] at e2
          exact List.isEmpty_iff.1 e2
        have hxs : (obsF m).take i = [] := by
          cases e : (obsF m).take i with
          | nil => rfl
          | cons y r =>
            have := out_ne ((obsF m).take i) (by rw [e]; simp)
            rw [ho] at this
            exact absurd hem this
        have hsn := out_one x
        have ht : (obsF m).take (i + 1) = [x] := by rw [List.take_succ_eq_append_getElem hlt, hxs, hx]; rfl
        have hoe : o ++ tF x = tF x := by apply ba_eq; rw [ba_append, hem, List.nil_append]
        refine ⟨⟨i + 1, by omega, by rw [ht, hsn, hoe], by congr 1, ⟨bel_tr HB1.out hb⟩⟩, ?_⟩
        simp only [intI]; omega
    · obtain rfl : i = (obsF m).length := by omega
      have htk : (obsF m).take (obsF m).length = obsF m := List.take_of_length_le (Nat.le_refl _)
      rw [htk]
      have hbt : Below w.heap.size w wr := bel_tr HB.out HB1.out
      by_cases h0 : obsF m = []
      · have ht : textF m = ⟨#[45]⟩ := by unfold textF; rw [if_pos h0]
        rw [h0, out_nil]
        go_wp2
        go_ret
        exact ⟨by rw [ht]; rfl, hbt⟩
      · have ht : textF m = outT (obsF m) := by unfold textF; rw [if_neg h0]; rfl
        have hne : (outT (obsF m)).toList ≠ [] := by rw [ba_toList]; exact out_ne _ h0
        have hne2 : (outT (obsF m)).toList.isEmpty = false := by cases e : (outT (obsF m)).toList with | nil => exact absurd e hne | cons y r => rfl
        go_wp2
        go_ret
        exact ⟨by rw [ht]; rfl, hbt⟩
end Go.Proofs.YthafmgcflbdjpaaDoor
