/- bytes.Clone; ink.Pen.Bytes; ink.Eye: what it holds; Read, wrong, fail, Left, take. -/
import Derived.Test.YthllblcbmpehlaaNc
import Derived.Lib.SliceRun
import Derived.WalkSpells
namespace Go.Proofs.Ythllblcbmpehlaa
open Go.RowKit Go.Proofs.YthllblcbmpehlaaW.PrintWords Go.Proofs.YthllblcbmpehlaaW.PrintLast Go.Proofs.YthllblcbmpehlaaW.PrintMore
set_option linter.unusedVariables false
set_option linter.unusedSimpArgs false

theorem clone_nil (n c : Nat) (w : World) : (binOp .eql 25 (.slice none n c) (.slice none 0 0)).run Try.prog w = .ok (.bool true) w := Go.Lib.run_eql_slice_nil w _ _ _ _ _ _ _ Try.underlying25
theorem clone_some (a : Addr) (n c : Nat) (w : World) : (binOp .eql 25 (.slice (some a) n c) (.slice none 0 0)).run Try.prog w = .ok (.bool false) w := Go.Lib.run_eql_slice_nil w _ _ _ _ _ _ _ Try.underlying25
set_option maxHeartbeats 1000000 in
theorem clone_any (A : Option Addr) (n c : Nat) (q : List Int) (w : World) (hq : (Kd.int .u8).C w A n q) (hn : n ≤ 100000000) :
    Calls Try.prog 33 #[.slice A n c] w fun e w' => ∃ v, e = .returned v ∧ (Kd.int .u8).R 5 w' w.heap.size (fun _ => True) v q ∧ Below w.heap.size w w' := by
  cases A with
  | none =>
    obtain rfl := C_none hq
    have hz := clone_nil n c w
    clear hq
    go_enter Try.func33, Try.ntmps33
    go_wp2_with fail
    go_ret
    exact ⟨_, rfl, Kd.R_nil _ _ _ _ _, Below.refl _ _⟩
  | some ad =>
    have HQ := Aside0.mk (Kd.C_alloc hq (.cells #[] 5))
    have HB := Aside0.mk (below_alloc (Below.refl w.heap.size w) (.cells #[] 5))
    have HO := Aside0.mk (R_made0 (Kd.int .u8) 5 w w.heap.size (Nat.le_refl _))
    have HL : Aside0 ((([] : List Int).length + n) * 1 ≤ 140737488355328) := ⟨by simp; omega⟩
    have hz := clone_some ad n c w
    clear hq hn
    go_enter Try.func33, Try.ntmps33
    go_wp2_with (at_builtin; go_loud (refine R_app .u8 (w0 := w) w.heap.size rfl (.tmp 5) (.tmp 6) 25 5 1 rfl Try.underlying25 np_info (by decide) _ [] q (some ad) n c (fun _ => True) rfl rfl HO.out HQ.out (fun _ _ => trivial) HB.out HB.out.size HL.out ?_))
    intro v1 w1 ho hb1 _ _
    have HO1 := Aside0.mk ho
    have HB1 := Aside0.mk hb1
    clear ho hb1
    go_wp2_with fail
    go_ret
    exact ⟨_, rfl, HO1.out, HB1.out⟩

set_option maxHeartbeats 1000000 in
theorem pbytes_any (base g : Nat) (p : List Int) (v : Value) (w : World) (hk : Pn w base g p v) (hl : p.length ≤ 1000000) :
    Calls Try.prog 13 #[.pointer (some ⟨g, 0, none⟩)] w fun e w' => ∃ vo, e = .returned vo ∧ (Kd.int .u8).R 5 w' w.heap.size (fun _ => True) vo p ∧ Below w.heap.size w w' := by
  have c0 := blk_cell hk.1 0
  obtain ⟨Q, d, hv⟩ := Kd.R_slice hk.2
  subst hv
  obtain ⟨r1, r2, r3⟩ := Rn_C hk.2
  have KEY := Aside0.mk (clone_any Q p.length d p w r3 (by omega))
  generalize p.length = m at *
  clear hk r1 r2 r3 hl
  go_enter Try.func13, Try.ntmps13
  go_wp2_with fail
  refine KEY.out.mono ?_
  rintro e w1 ⟨vo, rfl, h1, h2⟩
  have H1 := Aside0.mk h1
  have H2 := Aside0.mk h2
  clear h1 h2
  go_wp2_with fail
  go_ret
  exact ⟨_, rfl, H1.out, H2.out⟩
set_option maxHeartbeats 1000000 in
theorem pbytes_nil (w : World) :
    Calls Try.prog 13 #[.pointer none] w fun e w' => e = .returned (.slice none 0 0) ∧ w' = w := by
  go_enter Try.func13, Try.ntmps13
  go_wp2_with fail
  go_ret
  exact ⟨rfl, rfl⟩

/-- 'xs[j:]' and 'xs[:j:j]', with the block. -/
theorem eye_lo {P : Program} (k kl : IntKind) (t e bytes : Nat) (ht : P.underlying t = some (.slice e)) (hinfo : (P.info? e).map (fun i => (i.zero, i.size, i.bytes)) = some (some (.int k 0), 1, bytes)) (A : Option Addr) (n c j : Nat) (hj : j ≤ n) (hc : n ≤ c) :
    ∃ A' : Option Addr, (∀ W : World, (Instr.slice t (.slice A n c) (some (.int kl (j : Int))) none none).run P W = .ok (.slice A' (n - j) (c - j)) W) ∧
      (∀ (w : World) (xs : List Int), (Kd.int k).C w A n xs → (Kd.int k).C w A' (n - j) (xs.drop j)) ∧ ∀ ad', A' = some ad' → ∃ ad, A = some ad ∧ ad'.block = ad.block := by
  obtain ⟨i0, hi, hzz⟩ := Option.map_eq_some_iff.1 hinfo
  simp only [Prod.mk.injEq] at hzz
  have hel : P.elem t = e := by simp [Program.elem, ht]
  have hu : P.underlying t = some (.slice (P.elem t)) := by rw [hel]; exact ht
  refine ⟨if c = j then A else A.map (·.add j), fun W => ?_, fun w xs h => ?_, fun ad' h => ?_⟩
  · rw [run_slice_l W t A n c hu kl (j : Int) (Int.natCast_nonneg _) (by omega), hel]
    simp [sizeOf, typeInfo, hi, hzz.2.1, sliced, Result.andThen]
  · obtain rfl := h.1
    exact Kd.C_of_reads ((Kd.reads_of_C (d := (0 : Int)) h).drop_ j hj hc)
  · split at h
    · exact ⟨ad', h, rfl⟩
    · obtain ⟨ad, h1, rfl⟩ := Option.map_eq_some_iff.1 h
      exact ⟨ad, h1, by rw [add_block]⟩
theorem eye_hi {P : Program} (k kh km : IntKind) (t e bytes : Nat) (ht : P.underlying t = some (.slice e)) (hinfo : (P.info? e).map (fun i => (i.zero, i.size, i.bytes)) = some (some (.int k 0), 1, bytes)) (A : Option Addr) (n c j : Nat) (hj : j ≤ n) (hc : n ≤ c) :
    (∀ W : World, (Instr.slice t (.slice A n c) none (some (.int kh (j : Int))) (some (.int km (j : Int)))).run P W = .ok (.slice A j j) W) ∧
      (∀ (w : World) (xs : List Int), (Kd.int k).C w A n xs → (Kd.int k).C w A j (xs.take j)) := by
  obtain ⟨i0, hi, hzz⟩ := Option.map_eq_some_iff.1 hinfo
  simp only [Prod.mk.injEq] at hzz
  have hel : P.elem t = e := by simp [Program.elem, ht]
  have hu : P.underlying t = some (.slice (P.elem t)) := by rw [hel]; exact ht
  have ha : (A.map fun x => x.add 0) = A := by cases A <;> simp [Addr.add]
  refine ⟨fun W => ?_, fun w xs h => ?_⟩
  · rw [run_slice_hm W t A n c hu kh km (j : Int) (j : Int) (Int.natCast_nonneg _) (Int.le_refl _) (by omega), hel]
    simp [sizeOf, typeInfo, hi, hzz.2.1, sliced, Result.andThen, ha]
  · obtain rfl := h.1
    exact Kd.C_of_reads ((Kd.reads_of_C (d := (0 : Int)) h).take_ j hj)

/-- An eye, whose bytes lie in a block below B. -/
def Ey (w : World) (g B : Nat) (l : List Int) (bad : Bool) : Prop := ∃ A n c, w.heap[g]? = some (.cells #[.slice A n c, .bool bad] 67 (0, 0)) ∧ (Kd.int .u8).C w A n l ∧ n ≤ c ∧ (∀ ad, A = some ad → ad.block ≠ g ∧ ad.block < B) ∧ g < B
def EyTo (w w' : World) (g B : Nat) (l : List Int) (bad : Bool) : Prop := Ey w' g B l bad ∧ KeepBut w w' g none ∧ Below g w w'
theorem eye_block (w w' : World) {A : Option Addr} {n : Nat} {l : List Int} (h : (Kd.int .u8).C w A n l) (hb : ∀ ad, A = some ad → w'.heap[ad.block]? = w.heap[ad.block]?) : (Kd.int .u8).C w' A n l := by
  refine ⟨h.1, h.2.1, fun hn => ?_⟩
  obtain ⟨ad, e, hj⟩ := h.2.2 hn
  refine ⟨ad, e, fun j p hp => ?_⟩
  obtain ⟨cs, h1, h2, h3⟩ := hj j p hp
  refine ⟨cs, h1, h2, fun i u hu => ?_⟩
  have := h3 i u hu
  have hbl : ∀ k, (ad.add k).block = ad.block := fun k => by rw [add_block]
  unfold World.cell? at this ⊢
  rw [hbl] at this ⊢
  rw [hb ad e]
  exact this
theorem Ey.below {w w' : World} {g B : Nat} {l : List Int} {bad : Bool} (h : Ey w g B l bad) (hb : Below B w w') (hB : B ≤ w.heap.size) : Ey w' g B l bad := by
  obtain ⟨A, n, c, h1, h2, h3, h4, h5⟩ := h
  exact ⟨A, n, c, (hb.block g h5).trans h1, eye_block w w' h2 (fun ad e => hb.block _ (h4 ad e).2), h3, h4, h5⟩
theorem Ey.lt {w : World} {g B : Nat} {l : List Int} {bad : Bool} (h : Ey w g B l bad) : g < w.heap.size ∧ l.length ≤ 9223372036854775807 := by
  obtain ⟨A, n, c, h1, h2, h3, h4, h5⟩ := h
  exact ⟨blk_lt h1, by rw [h2.1]; exact h2.2.1⟩
theorem EyTo.trans {w w1 w2 : World} {g B : Nat} {l1 l2 : List Int} {b1 b2 : Bool} (h : EyTo w w1 g B l1 b1) (h' : EyTo w1 w2 g B l2 b2) : EyTo w w2 g B l2 b2 := ⟨h'.1, h.2.1.trans h'.2.1 (.inl rfl), h.2.2.trans h'.2.2⟩
theorem EyTo.refl {w : World} {g B : Nat} {l : List Int} {b : Bool} (h : Ey w g B l b) : EyTo w w g B l b := ⟨h, KeepBut.refl _ _ _, Below.refl _ _⟩

set_option maxHeartbeats 1000000 in
theorem read_any (A : Option Addr) (n c : Nat) (q : List Int) (w : World) (hq : (Kd.int .u8).C w A n q) (hn : n ≤ 100000000) :
    Calls Try.prog 15 #[.slice A n c] w fun e w' => ∃ g, e = .returned (.pointer (some ⟨g, 0, none⟩)) ∧ w.heap.size ≤ g ∧ Ey w' g w'.heap.size q false ∧ Below w.heap.size w w' := by
  have KEY := Aside0.mk (clone_any A n c q w hq hn)
  clear hq hn
  go_enter Try.func15, Try.ntmps15
  go_wp2_with fail
  refine KEY.out.mono ?_
  rintro e w1 ⟨vo, rfl, h1, h2⟩
  obtain ⟨Q, d, hv⟩ := Kd.R_slice h1
  subst hv
  obtain ⟨r1, r2, r3⟩ := Rn_C h1
  have HLT := Aside0.mk (Kd.R_lt h1)
  have HC := Aside0.mk r3
  have HD := Aside0.mk r2
  have H2 := Aside0.mk h2
  generalize q.length = m at *
  clear h1 h2 KEY r1 r2 r3
  go_wp2_with fail
  go_ret
  refine ⟨w1.heap.size, rfl, H2.out.size, ⟨Q, m, d, blk_new _ _, Kd.C_alloc HC.out _, HD.out, fun ad e => ?_, by simp⟩, below_step H2.out (below_alloc (Below.refl _ _) _)⟩
  have := HLT.out ad.block (by rw [e]; rfl)
  simp
  omega

set_option maxHeartbeats 1000000 in
theorem wrong_any (g B : Nat) (l : List Int) (bad : Bool) (w : World) (hk : Ey w g B l bad) :
    Calls Try.prog 35 #[.pointer (some ⟨g, 0, none⟩)] w fun e w' => e = .returned (.bool bad) ∧ w' = w := by
  obtain ⟨A, n, c, h1, h2, h3, h4, h5⟩ := hk
  have c1 := blk_cell h1 1
  clear h1 h2 h3 h4 h5
  go_enter Try.func35, Try.ntmps35
  go_wp2_with fail
  go_ret
  exact ⟨rfl, rfl⟩
set_option maxHeartbeats 1000000 in
theorem left_any (g B : Nat) (l : List Int) (bad : Bool) (w : World) (hk : Ey w g B l bad) :
    Calls Try.prog 16 #[.pointer (some ⟨g, 0, none⟩)] w fun e w' => e = .returned (.int .i64 l.length) ∧ w' = w := by
  obtain ⟨A, n, c, h1, h2, h3, h4, h5⟩ := hk
  obtain rfl := h2.1
  have c0 := blk_cell h1 0
  generalize l.length = m at *
  clear h1 h2 h3 h4 h5
  go_enter Try.func16, Try.ntmps16
  go_wp2_with fail
  go_ret
  exact ⟨rfl, rfl⟩
set_option maxHeartbeats 1000000 in
theorem efail_any (g B : Nat) (l : List Int) (bad : Bool) (w : World) (hk : Ey w g B l bad) :
    Calls Try.prog 36 #[.pointer (some ⟨g, 0, none⟩)] w fun e w' => e = .returned (.tuple #[]) ∧ EyTo w w' g B [] true := by
  obtain ⟨A, n, c, h1, h2, h3, h4, h5⟩ := hk
  have c0 := blk_cell h1 0
  have c1 := blk_cell h1 1
  have f0 := blk_frozen h1 0
  have f1 := blk_frozen h1 1
  have H1 := Aside0.mk h1
  have H5 := Aside0.mk h5
  clear h1 h2 h3 h4 h5
  go_enter Try.func36, Try.ntmps36
  go_wp2_with fail
  go_end0
  refine ⟨rfl, ⟨none, 0, 0, blk_set (blk_set H1.out 1 _) 0 _, Kd.C_nil _ _, Nat.le_refl _, ⟨(fun ad e => nomatch e), H5.out⟩⟩, ((KeepBut.refl w g none).set_ 1 _).set_ 0 _, ((Below.refl g w).setCell (Nat.le_refl _) _).setCell (Nat.le_refl _) _⟩
end Go.Proofs.Ythllblcbmpehlaa
