/- code.Text. -/
import Derived.Test.YthimlgkegobaeaaDoorCa
import Derived.Lib.AppendIntMem
namespace Go.Proofs.YthimlgkegobaeaaDoor
open Go.RowKit Go.Shelf Go.Proofs.YthimlgkegobaeaaDoorW.PrintWords Go.Proofs.YthimlgkegobaeaaDoorW.PrintLast Go.Proofs.YthimlgkegobaeaaDoorW.PrintMore
set_option linter.unusedVariables false
set_option linter.unusedSimpArgs false

theorem bel_c {w W w' : World} (h : Below w.heap.size w W) (hb : Below W.heap.size W w') : Below w.heap.size w w' := h.trans (hb.mono h.size)
theorem bel_t8 {w W w' : World} (h : Below w.heap.size w W) (hb : Below W.heap.size W w') : Below w.heap.size w w' := h.trans (hb.mono h.size)
/-- 'strings.Join' of a row of one's own. -/
theorem join_row (base : Nat) (v : Value) (xs : List ByteArray) (sep : ByteArray) (W : World) (h : Kd.string.R 9 W base (fun _ => True) v xs) (hne : xs ≠ []) (hN : xs.length ≤ 1000)
    (hl : (Lib.join (xs.map (·.data.toList)) sep.data.toList).length ≤ 140737488355328) :
    Calls Tryd.prog 35 #[v, .string sep] W fun e w' => e = .returned (.string ⟨(Lib.join (xs.map (·.data.toList)) sep.data.toList).toArray⟩) ∧ Below W.heap.size W w' := by
  obtain ⟨A, c, rfl, hle, hC⟩ := Kd.R_reads h
  have hlen : 0 < xs.length := List.length_pos_iff.2 hne
  obtain ⟨inner, hown⟩ := Kd.R_own h
  rcases hown.2 with ⟨e1, h0⟩ | ⟨g, cap, cur, e1, hg, hgb, hcap, hrest⟩
  · omega
  · obtain ⟨rfl, -, rfl⟩ : A = some ⟨g, 0, none⟩ ∧ xs.length = xs.length ∧ c = cap := by simpa using e1
    refine Tryd.strings_Join g 0 c xs sep W ?_ (Array.getElem?_eq_some_iff.1 hgb).1 (by omega) hle hl
    intro j x hj
    have hj' : j < xs.length := (List.getElem?_eq_some_iff.1 hj).1
    obtain ⟨ad, e2, hc⟩ := Kd.at_string hC (j : Int) (by omega) (by omega)
    cases e2
    rw [Int.toNat_natCast] at hc
    have e3 : rdOf ByteArray.empty xs (j : Int) = x := by
      unfold rdOf
      simp [List.getD, hj]
    rw [e3] at hc
    cases j <;> simpa [Addr.add] using hc
theorem digits_len : ∀ n : Nat, (Lib.decDigits n).length ≤ n + 1 := by
  intro n
  induction n using Nat.strongRecOn with
  | ind n ih =>
    unfold Lib.decDigits
    split
    · simp
    · rename_i h
      have := ih (n / 10) (by omega)
      simp only [List.length_append, List.length_cons, List.length_nil]
      omega
theorem itoa_len (n : Int) : (Lib.itoa n).length ≤ n.natAbs + 2 := by
  unfold Lib.itoa
  split
  · have := digits_len n.natAbs
    simp only [List.length_cons]; omega
  · have := digits_len n.toNat
    omega
theorem join_len_any (M : Nat) (sep : List UInt8) (hs : sep.length ≤ 1) : ∀ (xs : List (List UInt8)), (∀ x ∈ xs, x.length ≤ M) → (Lib.join xs sep).length ≤ (M + 1) * xs.length := by
  intro xs h
  cases xs with
  | nil => simp [Lib.join_nil]
  | cons x r =>
    rw [Lib.join_cons, List.length_append]
    have h1 := h x (by simp)
    have h2 : (Lib.joinTail sep r).length ≤ (M + 1) * r.length := by
      have hr : ∀ y ∈ r, y.length ≤ M := fun y hy => h y (by simp [hy])
      clear h h1
      induction r with
      | nil => simp [Lib.joinTail]
      | cons y r ih =>
        have := ih (fun z hz => hr z (by simp [hz]))
        have h3 := hr y (by simp)
        simp only [Lib.joinTail, List.map_cons, List.flatten_cons, List.length_append, List.length_cons, Nat.mul_add, Nat.mul_one] at this ⊢
        omega
    simp only [List.length_cons, Nat.mul_add, Nat.mul_one]
    omega
def itoaB (n : Int) : ByteArray := ⟨(Lib.itoa n).toArray⟩
theorem itoa_any (n : Int) (h : -9223372036854775808 ≤ n ∧ n ≤ 9223372036854775807) (w : World) (hT : CTab w) :
    Calls Tryd.prog 34 #[.int .i64 n] w fun e w' => e = .returned (.string (itoaB n)) ∧ Below w.heap.size w w' := by
  refine (Tryd.strconv_Itoa n h.1 h.2 w hT.2.2.2).mono ?_
  rintro e w' ⟨rfl, k, os, rfl⟩
  exact ⟨rfl, Lib.below_grow _ _ (Nat.le_refl _) k os⟩
/-- What an instruction is in words. -/
def textL (op a b c : Nat) (n : Int) (m : Nat) : List ByteArray := [wordN op, itoaB a, itoaB b, itoaB c, itoaB n, textF m]
def textC (op a b c : Nat) (n : Int) (m : Nat) : ByteArray := if op < 26 then ⟨(Lib.join ((textL op a b c n m).map (·.data.toList)) [32]).toArray⟩ else ⟨#[]⟩
theorem textF_len (m : Nat) : (textF m).data.toList.length ≤ 96 := by
  unfold textF
  split
  · simp
  · have h1 := join_len ((obsF m).map fun x => Lib.decDigits x.val) (by simp only [List.mem_map]; rintro x ⟨y, -, rfl⟩; exact dec_len y)
    have h2 := obsF_len m
    simp only [List.length_map] at h1
    simp only []
    omega
theorem word_len : ∀ op, op < 26 → (wordN op).data.toList.length ≤ 7 := by decide +kernel
theorem textL_len (op a b c : Nat) (n : Int) (m : Nat) (h0 : op < 26) (h1 : a < 256) (h2 : b < 256) (h3 : c < 256) (h4 : -2147483648 ≤ n ∧ n < 2147483648) :
    (Lib.join ((textL op a b c n m).map (·.data.toList)) (⟨#[32]⟩ : ByteArray).data.toList).length ≤ 140737488355328 := by
  refine Nat.le_trans (join_len_any 3000000000 _ (by decide) _ ?_) (by simp [textL])
  unfold textL
  have e1 := itoa_len a
  have e2 := itoa_len b
  have e3 := itoa_len c
  have e4 := itoa_len n
  have e5 := textF_len m
  have e6 := word_len op h0
  simp only [List.map_cons, List.map_nil, List.mem_cons, List.not_mem_nil, or_false]
  rintro x (rfl | rfl | rfl | rfl | rfl | rfl) <;> first | omega | (simp only [itoaB]; omega)
theorem take_next {α : Type} (l : List α) (i : Nat) (h : i < l.length) : l.take (i + 1) = l.take i ++ [l[i]] := by rw [List.take_succ_eq_append_getElem h]
theorem word_ne2 : ∀ op, op < 26 → (wordN op).toList.isEmpty = false := by decide +kernel
theorem lit1_R (W : World) (x : ByteArray) (base : Nat) (hbase : base ≤ W.heap.size) : Kd.string.R 9 (W.alloc (.cells #[.string x] 9)) base (fun _ => True) (.slice (some ⟨W.heap.size, 0, none⟩) 1 1) [x] :=
  ⟨fun _ _ => trivial, [.string x], (by have h := World.ownsRow_lit (base := base) (e := 9) (size := 1) W #[.string x] 1 hbase (by simp [maxLen]) rfl; simp at h; exact h), Reps.one rfl (Reps.none _ _)⟩
def intV (v : Value) : Int := match v with | .int _ n => n | _ => 0
/-- The state of Text's loop: the row of words, the numbers' block, the instruction's box. -/
def TxSt (w0 W : World) (gB gI : Nat) (cB cI : Array Value) (v : Value) (xs : List ByteArray) : Prop :=
  Kd.string.R 9 W w0.heap.size (fun _ => True) v xs ∧ W.heap[gI]? = some (.cells cI 3 (0, 0)) ∧ W.heap[gB]? = some (.cells cB 25 (0, 0)) ∧ Below w0.heap.size w0 W
theorem TxSt.below {w0 W w1 : World} {gB gI : Nat} {cB cI : Array Value} {v : Value} {xs : List ByteArray} (h : TxSt w0 W gB gI cB cI v xs) (hb : Below W.heap.size W w1) : TxSt w0 w1 gB gI cB cI v xs :=
  ⟨Kd.R_below h.1 hb, (hb.block _ (blk_lt h.2.1)).trans h.2.1, (hb.block _ (blk_lt h.2.2.1)).trans h.2.2.1, bel_t8 h.2.2.2 hb⟩
theorem TxSt.app {w0 W w1 : World} {gB gI : Nat} {cB cI : Array Value} {v v1 : Value} {xs ys : List ByteArray} (h : TxSt w0 W gB gI cB cI v xs) (ho : Kd.string.R 9 w1 w0.heap.size (fun _ => True) v1 ys) (hb : Below w0.heap.size w0 w1) (hg : W.grownBy w1 v.ownBlock) : TxSt w0 w1 gB gI cB cI v1 ys :=
  ⟨ho, blk_grown h.2.1 hg (Kd.R_ne h.1 h.2.1 (by decide)), blk_grown h.2.2.1 hg (Kd.R_ne h.1 h.2.2.1 (by decide)), hb⟩
theorem TxSt.R {w0 W : World} {gB gI : Nat} {cB cI : Array Value} {v : Value} {xs : List ByteArray} (h : TxSt w0 W gB gI cB cI v xs) : Kd.string.R 9 W w0.heap.size (fun _ => True) v xs := h.1
theorem TxSt.num {w0 W : World} {gB gI : Nat} {cB cI : Array Value} {v : Value} {xs : List ByteArray} (h : TxSt w0 W gB gI cB cI v xs) : W.heap[gI]? = some (.cells cI 3 (0, 0)) := h.2.1
theorem TxSt.box {w0 W : World} {gB gI : Nat} {cB cI : Array Value} {v : Value} {xs : List ByteArray} (h : TxSt w0 W gB gI cB cI v xs) : W.heap[gB]? = some (.cells cB 25 (0, 0)) := h.2.2.1
theorem TxSt.bel {w0 W : World} {gB gI : Nat} {cB cI : Array Value} {v : Value} {xs : List ByteArray} (h : TxSt w0 W gB gI cB cI v xs) : Below w0.heap.size w0 W := h.2.2.2
/-- The i-th number, and its words. -/
theorem num_at (op a b c : Nat) (n : Int) (m : Nat) (h1 : a < 256) (h2 : b < 256) (h3 : c < 256) (h4 : -2147483648 ≤ n ∧ n < 2147483648) (i : Nat) (hi : i < 4) :
    ∃ x : Int, (-2147483648 ≤ x ∧ x < 2147483648) ∧ (#[Value.int .i64 (a : Int), .int .i64 (b : Int), .int .i64 (c : Int), .int .i64 n] : Array Value)[i]? = some (.int .i64 x) ∧ (textL op a b c n m).take (i + 1 + 1) = (textL op a b c n m).take (i + 1) ++ [itoaB x] := by
  match i, hi with
  | 0, _ => exact ⟨a, by omega, rfl, rfl⟩
  | 1, _ => exact ⟨b, by omega, rfl, rfl⟩
  | 2, _ => exact ⟨c, by omega, rfl, rfl⟩
  | 3, _ => exact ⟨n, by omega, rfl, rfl⟩
attribute [local irreducible] wordN itoaB textF TxSt textL
set_option maxHeartbeats 8000000 in
set_option maxRecDepth 100000 in
theorem text08_any (op a b c : Nat) (n : Int) (m : Nat) (h0 : op < 256) (h1 : a < 256) (h2 : b < 256) (h3 : c < 256) (h4 : -2147483648 ≤ n ∧ n < 2147483648) (h5 : m < 4294967296) (w0 : World) (hT : CTab w0) :
    Calls Tryd.prog 15 #[.agg #[.int .u8 op, .int .u8 a, .int .u8 b, .int .u8 c, .int .i32 n, .int .u32 m]] w0 fun e w' => e = .returned (.string (textC op a b c n m)) ∧ Below w0.heap.size w0 w' := by
  have HB := Aside0.mk (below_alloc (Below.refl w0.heap.size w0) (.cells #[.int .u8 op, .int .u8 a, .int .u8 b, .int .u8 c, .int .i32 n, .int .u32 m] 25))
  have HLG : Aside0 (∀ z, Below (w0.alloc (.cells #[.int .u8 op, .int .u8 a, .int .u8 b, .int .u8 c, .int .i32 n, .int .u32 m] 25)).heap.size (w0.alloc (.cells #[.int .u8 op, .int .u8 a, .int .u8 b, .int .u8 c, .int .i32 n, .int .u32 m] 25)) z → z.heap[w0.heap.size]? = some (.cells #[.int .u8 op, .int .u8 a, .int .u8 b, .int .u8 c, .int .i32 n, .int .u32 m] 25 (0, 0))) := ⟨fun z hz => (hz.block _ (by simp)).trans (World.alloc_heap_new _ _)⟩
  obtain ⟨N1, hN1⟩ : ∃ x : Int, x = (a : Int) := ⟨_, rfl⟩
  obtain ⟨L, hL⟩ : ∃ L, L = textL op a b c n m := ⟨_, rfl⟩
  obtain ⟨NS, hNS⟩ : ∃ NS : List Int, NS = [(a : Int), (b : Int), (c : Int), n] := ⟨_, rfl⟩
  go_enter Tryd.func15, Tryd.ntmps15
  by_cases h26 : op < 26
  · have hw := word_ne2 op h26
    obtain ⟨wd, hwd⟩ : ∃ x, wordN op = x := ⟨_, rfl⟩
    have KW := Aside0.mk (fun (z : World) (h : CTab z) => word_any op h0 z h)
    rw [hwd] at KW hw
    have HLL := Aside0.mk hL
    have HNS := Aside0.mk hNS
    have HWD := Aside0.mk hwd
    clear hL hNS hN1 hwd
    go_wp2_with (first | (go_at_call 16; (with_reducible refine (KW.out _ (hT.below HB.out)).mono ?_); rintro e w1 ⟨rfl, hb⟩; have HG1 := HLG.out (w1.alloc (.cells #[.string wd] 9)) (below_alloc hb _); have g1 : (w1.alloc (.cells #[.string wd] 9)).cell? ⟨w0.heap.size, 1, none⟩ = some (.int .u8 a) := blk_cell HG1 1; have g2 : (w1.alloc (.cells #[.string wd] 9)).cell? ⟨w0.heap.size, 2, none⟩ = some (.int .u8 b) := blk_cell HG1 2; have g3 : (w1.alloc (.cells #[.string wd] 9)).cell? ⟨w0.heap.size, 3, none⟩ = some (.int .u8 c) := blk_cell HG1 3; have g4 : (w1.alloc (.cells #[.string wd] 9)).cell? ⟨w0.heap.size, 4, none⟩ = some (.int .i32 n) := blk_cell HG1 4; replace HB := Aside0.mk (bel_t8 HB.out hb); have HB1 := Aside0.mk hb; clear hb HG1))
    have H2 : Aside0 (TxSt w0 ((w1.alloc (.cells #[.string wd] 9)).alloc (.cells #[.int .i64 (a : Int), .int .i64 (b : Int), .int .i64 (c : Int), .int .i64 n] 3)) w0.heap.size (w1.heap.size + 1) #[.int .u8 op, .int .u8 a, .int .u8 b, .int .u8 c, .int .i32 n, .int .u32 m] #[.int .i64 (a : Int), .int .i64 (b : Int), .int .i64 (c : Int), .int .i64 n] (.slice (some ⟨w1.heap.size, 0, none⟩) 1 1) (L.take 1)) := ⟨by
      have e : L.take 1 = [wd] := by rw [HLL.out]; unfold textL; rw [HWD.out]; rfl
      rw [e]
      unfold TxSt
      refine ⟨Kd.R_below (lit1_R w1 wd w0.heap.size HB.out.size) (below_alloc (Below.refl _ _) _), ?_, HLG.out _ (below_alloc (below_alloc HB1.out _) _), below_alloc (below_alloc HB.out _) _⟩
      have := World.alloc_heap_new (w1.alloc (.cells #[.string wd] 9)) (.cells #[.int .i64 (a : Int), .int .i64 (b : Int), .int .i64 (c : Int), .int .i64 n] 3)
      simpa using this⟩
    clear g1 g2 g3 g4 HB1 HLG KW
    generalize ((w1.alloc (.cells #[.string wd] 9)).alloc (.cells #[.int .i64 (a : Int), .int .i64 (b : Int), .int .i64 (c : Int), .int .i64 n] 3)) = W2 at *
    have HNA := Aside0.mk (fun (i : Nat) (hi : i < 4) => num_at op a b c n m h1 h2 h3 h4 i hi)
    rw [← HLL.out] at HNA
    have HL6 : Aside0 (L.length = 6) := ⟨by rw [HLL.out]; unfold textL; rfl⟩
    generalize hcB : (#[.int .u8 op, .int .u8 a, .int .u8 b, .int .u8 c, .int .i32 n, .int .u32 m] : Array Value) = cB at H2
    generalize hcI : (#[.int .i64 (a : Int), .int .i64 (b : Int), .int .i64 (c : Int), .int .i64 n] : Array Value) = cI at H2 HNA
    have HCB := Aside0.mk hcB
    clear hcB hcI
    go_loopw [4, 28] (fun v4 v28 wr => ∃ i : Nat, i ≤ 4 ∧ v28 = .int .i64 (i : Int) ∧ Aside0 (TxSt w0 wr w0.heap.size (w1.heap.size + 1) cB cI v4 (L.take (i + 1)))) (fun _ v28 _ => (4 - intV v28).toNat)
    case atStart => exact ⟨0, by omega, rfl, H2⟩
    case round =>
      obtain ⟨i, hi, rfl, HT⟩ := hrel
      by_cases h : i < 4
      · obtain ⟨x, hx, hcx, hlx⟩ := HNA.out i h
        have c0 : wr.cell? ⟨w1.heap.size + 1, i, none⟩ = some (.int .i64 x) := by rw [cell_of_row _ _ _ _ _ _ HT.out.num]; exact hcx
        have HLX := Aside0.mk hlx
        clear hcx hlx
        go_wp2_with (first
          | (go_at_call 34; (with_reducible refine (itoa_any x (by omega) _ (hT.below HT.out.bel)).mono ?_); rintro e w3 ⟨rfl, hb⟩; replace HT := Aside0.mk (HT.out.below hb); clear hb)
          | ((with_reducible refine gate_builtin (b := .append) (xs := #[.tmp 32, .tmp 35]) rfl ?_); at_builtin; (refine Kd.R_append Kd.string (w0 := w0) w0.heap.size rfl (.tmp 32) (.tmp 35) 70 9 (.string ⟨#[]⟩) 16 rfl Tryd.underlying70 infoS rfl (by decide) (by omega) u4 (L.take (i + 1)) (itoaB x) [.string (itoaB x)] (fun _ => True) (fun _ => False) rfl rfl ?aP (fun _ hk => hk.elim) ?aF ?aO ?aB ?aS ?aL ?_; (case aP => exact rfl); (case aF => exact fun _ _ => trivial); (case aO => exact HT.out.R); (case aB => exact HT.out.bel); (case aS => exact HT.out.bel.size); (case aL => have := HL6.out; simp only [List.length_take]; omega); intro v1 w4 ho hb hg hat; rw [← HLX.out] at ho; replace HT := Aside0.mk (HT.out.app ho hb hg); clear ho hb hg hat)))
        exact ⟨⟨i + 1, by omega, by congr 1, HT⟩, by simp only [intV]; omega⟩
      · obtain rfl : i = 4 := by omega
        have c5 : wr.cell? ⟨w0.heap.size, 5, none⟩ = some (.int .u32 m) := by rw [cell_of_row _ _ _ _ _ _ HT.out.box, ← HCB.out]; rfl
        have HLE : Aside0 (L.take (4 + 1) ++ [textF m] = L) := ⟨by rw [HLL.out]; unfold textL; rfl⟩
        have HJL := Aside0.mk (textL_len op a b c n m h26 h1 h2 h3 h4)
        have HTC : Aside0 (textC op a b c n m = ⟨(Lib.join (L.map (·.data.toList)) [32]).toArray⟩) := ⟨by unfold textC; rw [if_pos h26, HLL.out]⟩
        rw [← HLL.out] at HJL
        clear HNA HCB
        go_wp2_with (first
          | (go_at_call 36; refine (text_any m h5 _ (hT.below HT.out.bel).1 (hT.below HT.out.bel).2.1).mono ?_; rintro e w3 ⟨rfl, hb⟩; replace HT := Aside0.mk (HT.out.below hb); clear hb)
          | ((with_reducible refine gate_builtin (b := .append) (xs := #[.tmp 38, .tmp 42]) rfl ?_); at_builtin; (refine Kd.R_append Kd.string (w0 := w0) w0.heap.size rfl (.tmp 38) (.tmp 42) 70 9 (.string ⟨#[]⟩) 16 rfl Tryd.underlying70 infoS rfl (by decide) (by omega) u4 (L.take (4 + 1)) (textF m) [.string (textF m)] (fun _ => True) (fun _ => False) rfl rfl ?aP (fun _ hk => hk.elim) ?aF ?aO ?aB ?aS ?aL ?_; (case aP => exact rfl); (case aF => exact fun _ _ => trivial); (case aO => exact HT.out.R); (case aB => exact HT.out.bel); (case aS => exact HT.out.bel.size); (case aL => have := HL6.out; simp only [List.length_take]; omega); intro v1 w4 ho hb hg hat; rw [HLE.out] at ho; replace HT := Aside0.mk (HT.out.app ho hb hg); clear ho hb hg hat))
          | (go_at_call 35; refine (join_row w0.heap.size _ L _ _ HT.out.R (by intro e; have := HL6.out; rw [e] at this; simp at this) (by have := HL6.out; omega) HJL.out).mono ?_; rintro e w5 ⟨rfl, hb⟩; replace HT := Aside0.mk (HT.out.below hb); clear hb))
        go_ret
        rw [HTC.out]
        exact ⟨rfl, HT.out.bel⟩
  · have hw : wordN op = ⟨#[]⟩ := word_no op (by omega)
    have KW := Aside0.mk (fun (z : World) (h : CTab z) => word_any op h0 z h)
    rw [hw] at KW
    have HTC : Aside0 (textC op a b c n m = ⟨#[]⟩) := ⟨by unfold textC; rw [if_neg h26]⟩
    clear hw hL hNS hN1
    go_wp2_with (first | (go_at_call 16; (with_reducible refine (KW.out _ (hT.below HB.out)).mono ?_); rintro e w1 ⟨rfl, hb⟩; replace HB := Aside0.mk (bel_t8 HB.out hb); clear hb))
    go_ret
    rw [HTC.out]
    exact ⟨rfl, HB.out⟩
end Go.Proofs.YthimlgkegobaeaaDoor
