/- The law's bytes; clip.Split. -/
import Derived.Test.YtmhninlndjcikaaKa
namespace Go.Proofs.Ytmhninlndjcikaa
open Go.RowKit Go.Proofs.YtmhninlndjcikaaW.PrintWords Go.Proofs.YtmhninlndjcikaaW.PrintLast Go.Proofs.YtmhninlndjcikaaW.PrintMore
set_option linter.unusedVariables false
set_option linter.unusedSimpArgs false

/-- 'xs[a:b]' of a row of whole numbers that is read. -/
theorem cut_in {P : Program} (k kl : IntKind) (t e bytes : Nat) (ht : P.underlying t = some (.slice e)) (hinfo : (P.info? e).map (fun i => (i.zero, i.size, i.bytes)) = some (some (.int k 0), 1, bytes)) (A : Option Addr) (n c a b : Nat) (ha : a ≤ b) (hb : b ≤ n) (hc : n ≤ c) :
    ∃ A' : Option Addr, (∀ W : World, (Instr.slice t (.slice A n c) (some (.int kl (a : Int))) (some (.int kl (b : Int))) none).run P W = .ok (.slice A' (b - a) (c - a)) W) ∧
      (∀ (w : World) (xs : List Int), (Kd.int k).C w A n xs → (Kd.int k).C w A' (b - a) ((xs.drop a).take (b - a))) := by
  obtain ⟨i0, hi, hzz⟩ := Option.map_eq_some_iff.1 hinfo
  simp only [Prod.mk.injEq] at hzz
  refine ⟨if c = a then A else A.map (·.add (a * 1)), fun W => ?_, fun w xs h => ?_⟩
  · have := cut_mid (P := P) t e kl kl ht hi 1 hzz.2.1 A n c (a : Int) (b : Int) (by omega) (by omega) (by omega) hc W
    simpa using this
  · obtain rfl := h.1
    have h1 := Kd.C_take h (m := b) hb
    have hl : (xs.take b).length = b := by rw [List.length_take]; omega
    have h2 := Kd.C_drop (c := c) h1 (m := a) (by rw [hl]; exact ha) (by rw [hl]; omega)
    have e : (xs.take b).drop a = (xs.drop a).take (b - a) := by rw [List.drop_take]
    rw [e] at h2
    have hl2 : ((xs.drop a).take (b - a)).length = b - a := by rw [List.length_take, List.length_drop]; omega
    rw [hl2] at h2
    exact h2

/-! ### The law's bytes -/
def runB (b : Int) (k : Nat) : List Int := (List.range k).map fun i : Nat => (b + (i : Int)) % 256
theorem runB_length (b : Int) (k : Nat) : (runB b k).length = k := by simp [runB]
theorem runB_bytes (b : Int) (k : Nat) : Bytes (runB b k) := fun x hx => by
  obtain ⟨i, _, rfl⟩ := List.mem_map.1 hx
  omega
def Row8 (w : World) (g : Nat) (q : List Int) : Prop := w.heap[g]? = some (.cells (row8 q) 5 (0, 0))
theorem Row8.cell {w : World} {g : Nat} {q : List Int} (h : Row8 w g q) {i : Nat} (hi : i < q.length) : w.cell? ⟨g, i, none⟩ = some (.int .u8 q[i]) := by
  refine (blk_cell h i).trans ?_
  simp [row8, hi]
theorem Row8.frozen {w : World} {g : Nat} {q : List Int} (h : Row8 w g q) (i : Nat) : w.frozen? ⟨g, i, none⟩ = false := blk_frozen h i
theorem Row8.set {w : World} {g : Nat} {q : List Int} (h : Row8 w g q) (i : Nat) (x : Int) : Row8 (w.setCell ⟨g, i, none⟩ (.int .u8 x)) g (q.set i x) := by
  refine (blk_set h i _).trans ?_
  congr 2
  apply Array.ext'
  simp [row8, List.map_set]
theorem Row8.reads {w : World} {g n : Nat} {q : List Int} (h : Row8 w g q) (hn : q.length = n) (hm : n ≤ 9223372036854775807) : (Kd.int .u8).C w (some ⟨g, 0, none⟩) n q :=
  C_of_block h ⟨by simp [row8], hn, hm⟩

set_option maxRecDepth 100000 in
set_option maxHeartbeats 4000000 in
theorem bytes_row (n b : Int) (hn : 0 ≤ n ∧ n < 65536) (w : World) :
    Calls Try.prog 10 #[.int .u16 n, .int .u8 b] w fun e w' => e = .returned (.slice (some ⟨w.heap.size, 0, none⟩) (n % 1100).toNat (n % 1100).toNat) ∧ Row8 w' w.heap.size (runB b (n % 1100).toNat) ∧ Below w.heap.size w w' := by
  have e1 : n.tmod 1100 = ((n % 1100).toNat : Int) := by rw [Int.tmod_eq_emod_of_nonneg hn.1]; omega
  have hk : (n % 1100).toNat < 1100 := by omega
  generalize (n % 1100).toNat = k at *
  have hm := make_u8 .u16 .u16 k (by omega)
  have e2 : IntKind.u16.wrap (k : Int) = k := by rw [IntKind.wrap_u16]; omega
  clear hn
  go_enter Try.func10, Try.ntmps10
  go_wp2_with fail
  clear hm
  have G1 : Aside0 (Row8 (w.alloc (.cells (row8 (List.replicate k 0)) 5)) w.heap.size (List.replicate k 0)) := ⟨blk_new _ _⟩
  have B1 := Aside0.mk (below_alloc (Below.refl w.heap.size w) (.cells (row8 (List.replicate k 0)) 5))
  obtain ⟨W, hW⟩ : ∃ W, w.alloc (.cells (row8 (List.replicate k 0)) 5) = W := ⟨_, rfl⟩
  rw [hW] at G1 B1 ⊢
  clear hW e1 e2
  go_loopw [12] (fun v12 wr => ∃ (j : Nat) (q : List Int), j ≤ k ∧ v12 = .int .i64 j ∧ Aside0 (Row8 wr w.heap.size q ∧ q.length = k ∧ (∀ i, i < j → q[i]? = some ((b + (i : Int)) % 256)) ∧ Below w.heap.size w wr)) (fun v12 _ => k - (intOf v12).toNat)
  case atStart => exact ⟨0, _, by omega, rfl, ⟨G1.out, by simp, fun i h => absurd h (by omega), B1.out⟩⟩
  case round =>
    clear G1 B1
    obtain ⟨j, q, hj, rfl, H⟩ := hrel
    by_cases hlt : j < k
    · have hlq : j < q.length := by rw [H.out.2.1]; exact hlt
      have c0 := H.out.1.cell hlq
      have c1 := H.out.1.frozen j
      have e3 : IntKind.u8.wrap (b + IntKind.u8.wrap (j : Int)) = (b + (j : Int)) % 256 := by rw [IntKind.wrap_u8, IntKind.wrap_u8]; omega
      go_wp2_with fail
      go_roundw
      case rel =>
        refine ⟨j + 1, q.set j ((b + (j : Int)) % 256), by omega, by go_num, ⟨?_, by simp [H.out.2.1], ?_, below_set H.out.2.2.2 (Nat.le_refl _)⟩⟩
        · have := H.out.1.set j ((b + (j : Int)) % 256)
          rw [← e3] at this ⊢
          exact this
        · intro i hi
          rw [List.getElem?_set]
          by_cases e : j = i
          · subst e; simp [hlq]
          · simp [e]; exact H.out.2.2.1 i (by omega)
      case measure => simp [intOf]; omega
    · have hq : q = runB b k := by
        apply List.ext_getElem?
        intro i
        by_cases h : i < k
        · rw [H.out.2.2.1 i (by omega)]; simp [runB, h]
        · rw [List.getElem?_eq_none (by rw [H.out.2.1]; omega), List.getElem?_eq_none (by rw [runB_length]; omega)]
      go_wp2_with fail
      go_ret
      refine ⟨rfl, ?_, H.out.2.2.2⟩
      rw [← hq]
      exact H.out.1
theorem bytes_any (n b : Int) (hn : 0 ≤ n ∧ n < 65536) (w : World) :
    Calls Try.prog 10 #[.int .u16 n, .int .u8 b] w fun e w' => ∃ A, e = .returned (.slice A (n % 1100).toNat (n % 1100).toNat) ∧ (Kd.int .u8).C w' A (n % 1100).toNat (runB b (n % 1100).toNat) ∧ Below w.heap.size w w' :=
  (bytes_row n b hn w).mono fun e w' h => ⟨_, h.1, Row8.reads h.2.1 (runB_length _ _) (by omega), h.2.2⟩
end Go.Proofs.Ytmhninlndjcikaa
