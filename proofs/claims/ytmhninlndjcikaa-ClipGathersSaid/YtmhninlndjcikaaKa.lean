/- Pieces of a message: their kind; the contracts of bytes.Clone, clip.Count, and the law's bytes. -/
import Derived.Test.YtmhninlndjcikaaA
import Derived.Test.YtmhninlndjcikaaRp
import Derived.Test.YtmhninlndjcikaaChecked
import Derived.WalkSpells
import Derived.Deep.QuietTactic
import Derived.BigQuiet
import Derived.Deep.RegionWith
import Derived.Deep.RegionLaw
import Derived.Laws.MakeOwn
import Derived.LoopTactic
namespace Go.Proofs.Ytmhninlndjcikaa
open Go.RowKit Go.Proofs.YtmhninlndjcikaaW.PrintWords Go.Proofs.YtmhninlndjcikaaW.PrintLast Go.Proofs.YtmhninlndjcikaaW.PrintMore
set_option linter.unusedVariables false
set_option linter.unusedSimpArgs false

theorem wx_info5 : (Try.prog.info? 5).map (fun i => (i.zero, i.size, i.bytes)) = some (some (.int .u8 0), 1, 1) := by kernel_rfl

set_option maxHeartbeats 800000 in
/-- bytes.Clone. -/
theorem clone_any (A : Option Addr) (n c : Nat) (l : List Int) (w : World) (hr : (Kd.int .u8).C w A n l) (hl : n ≤ 140737488351232) :
    Calls Try.prog 23 #[.slice A n c] w fun e w' => ∃ v, e = .returned v ∧ (Kd.int .u8).R 5 w' w.heap.size (fun _ => True) v l ∧ Below w.heap.size w w' := by
  obtain rfl := hr.1
  have HR := Aside0.mk hr
  clear hr
  have q22 : ∀ (w : World) (a : Option Addr) (n c n' c' : Nat), (binOp .eql 24 (.slice a n c) (.slice none n' c')).run Try.prog w = .ok (.bool a.isNone) w := fun w a n c n' c' => Lib.run_eql_slice_nil w _ _ a n c n' c' Try.underlying24
  cases A with
  | none =>
    have h0 : l = [] := C_none HR.out
    subst h0
    go_enter Try.func23, Try.ntmps23
    go_wp2
    go_ret
    exact ⟨_, rfl, Kd.R_nil _ _ _ _ _, Below.refl _ _⟩
  | some ad =>
    go_enter Try.func23, Try.ntmps23
    go_wp2_with (at_builtin; go_loud (refine Kd.R_append_row (Value.int .u8) (0 : Int) (h1 := fun _ => rfl) (w0 := w) w.heap.size rfl (.tmp 5) (.tmp 6) 24 5 (.int .u8 0) 1 rfl Try.underlying24 wx_info5 rfl (by decide) (.slice (some ⟨w.heap.size, 0, none⟩) 0 0) [] l (some ad) l.length c (fun _ => True) rfl rfl (fun _ _ => trivial) ?aO ?aR ?aB ?aS ?aL ?_))
    case aO => exact R_made0 _ _ _ _ (Nat.le_refl _)
    case aR => exact Kd.C_alloc HR.out _
    case aB => exact below_alloc (Below.refl _ _) _
    case aS => simp
    case aL => simp; omega
    intro v1 w1 ho hb _ _
    have HO := Aside0.mk ho
    have HB := Aside0.mk hb
    clear ho hb
    go_wp2
    go_ret
    exact ⟨_, rfl, HO.out, HB.out⟩

/-! ### Pieces -/
structure Pc where
  f : Bool
  l : Bool
  d : List Int
def kP : Kd Pc := Kd.iso (Kd.pair Kd.bool (Kd.pair Kd.bool (Kd.slice 5 (Kd.int .u8)))) (fun x : Pc => (x.f, x.l, x.d))
theorem kP_open {w : World} {x : Pc} {cs : List Value} (h : kP.K w x cs) : ∃ A2 c2, cs = [.bool x.f, .bool x.l, .slice A2 x.d.length c2] ∧ x.d.length ≤ c2 ∧ (Kd.int .u8).C w A2 x.d.length x.d := by
  obtain ⟨_, _, rfl, rfl, ⟨_, _, rfl, rfl, ⟨A2, c2, rfl, l2, g2⟩⟩⟩ := h
  exact ⟨A2, c2, rfl, l2, g2⟩
theorem kP_mkM (w : World) (base : Nat) (ok : Nat → Prop) (x : Pc) {v2 : Value} (g2 : (Kd.int .u8).R 5 w base ok v2 x.d) : kP.M w base ok x [.bool x.f, .bool x.l, v2] := ⟨[.bool x.f], [.bool x.l, v2], rfl, rfl, ⟨[.bool x.l], [v2], rfl, rfl, ⟨v2, rfl, g2⟩⟩⟩
/-- A piece of a row of pieces. -/
theorem piece_at {w : World} {A : Option Addr} {n : Nat} {xs : List Pc} (h : kP.C w A n xs) (j : Nat) (hj : j < xs.length) :
    ∃ ad B c, A = some ad ∧ w.cell? (ad.add (j * 3)) = some (.bool xs[j].f) ∧ w.cell? ⟨(ad.add (j * 3)).block, (ad.add (j * 3)).off + 1, none⟩ = some (.bool xs[j].l) ∧ w.cell? ⟨(ad.add (j * 3)).block, (ad.add (j * 3)).off + 2, none⟩ = some (.slice B xs[j].d.length c) ∧ xs[j].d.length ≤ c ∧ (Kd.int .u8).C w B xs[j].d.length xs[j].d := by
  have hn := h.1
  obtain ⟨ad, cs, e, _, hK, hc0⟩ := Kd.C_get h ⟨false, false, []⟩ (j : Int) (by omega) (by omega)
  have hg : xs.getD ((j : Int)).toNat ⟨false, false, []⟩ = xs[j] := by rw [List.getD_eq_getElem?_getD, Int.toNat_natCast, List.getElem?_eq_getElem hj]; rfl
  rw [hg] at hK
  rw [Int.toNat_natCast] at hc0
  have hc : ∀ i u, cs[i]? = some u → w.cell? (ad.add (j * 3 + i)) = some u := hc0
  obtain ⟨B, c, rfl, l2, g2⟩ := kP_open hK
  exact ⟨ad, B, c, e, hc 0 _ rfl, by rw [← add_field _ _ 1 (by omega)]; exact hc 1 _ rfl, by rw [← add_field _ _ 2 (by omega)]; exact hc 2 _ rfl, l2, g2⟩

/-! ### Count -/
def countN (n : Nat) : Nat := max ((n + 63) / 64) 1
theorem count_any (n : Nat) (hn : n ≤ 1024) (w : World) : Calls Try.prog 12 #[.int .i64 n] w fun e w' => e = .returned (.int .i64 (countN n : Nat)) ∧ Below w.heap.size w w' := by
  refine clip_Count.calls n (countN n : Nat) w ?_
  unfold clip_Count.f mx countN
  rw [if_neg (by omega), if_neg (by omega)]
  have e1 : wrap64 (wrap64 ((n : Int) + 64) - 1) = ((n + 63 : Nat) : Int) := by unfold wrap64; omega
  rw [e1]
  have e2 : (((n + 63 : Nat) : Int)).tdiv 64 = (((n + 63) / 64 : Nat) : Int) := by rw [Int.tdiv_eq_ediv_of_nonneg (by omega)]; rfl
  rw [e2]
  have e3 : wrap64 (((n + 63) / 64 : Nat) : Int) = (((n + 63) / 64 : Nat) : Int) := by unfold wrap64; omega
  rw [e3]
  congr 1
  by_cases h : (n + 63) / 64 < 1
  · rw [if_pos (by omega)]; omega
  · rw [if_neg (by omega)]; omega
theorem count_big (n : Int) (hn : n < 0 ∨ 1024 < n) (w : World) : Calls Try.prog 12 #[.int .i64 n] w fun e w' => e = .returned (.int .i64 0) ∧ Below w.heap.size w w' := by
  refine clip_Count.calls n 0 w ?_
  unfold clip_Count.f
  rcases hn with h | h
  · rw [if_pos h]
  · rw [if_neg (by omega), if_pos (by omega)]

/-! ### A row of bytes that is made -/
def row8 (l : List Int) : Array Value := (l.map (Value.int .u8)).toArray
theorem make_u8 (kl kc : IntKind) (k : Nat) (hk : k ≤ 65536) (w : World) : (Instr.makeSlice 24 (.int kl k) (.int kc k)).run Try.prog w = .ok (.slice (some ⟨w.heap.size, 0, none⟩) k k) (w.alloc (.cells (row8 (List.replicate k 0)) 5)) := by
  obtain ⟨i, hi, hz, h1, h2⟩ : ∃ i, Try.prog.info? 5 = some i ∧ i.zero = some (.int .u8 0) ∧ i.size = 1 ∧ i.bytes = 1 := by
    have := wx_info5
    cases h : Try.prog.info? 5 with
    | none => rw [h] at this; cases this
    | some i =>
      rw [h] at this
      simp at this
      exact ⟨i, rfl, this.1, this.2.1, this.2.2⟩
  have := run_makeSlice (P := Try.prog) w 24 5 i (.int .u8 0) Try.underlying24 hi hz kl kc (k : Int) (k : Int) (by omega) (by omega) (by rw [h1]; simp; omega) (by rw [h2]; omega) (by omega)
  rw [this]
  simp only [Int.toNat_natCast, h1, Nat.mul_one]
  congr 4
  apply Array.ext'
  unfold madeCells row8
  apply List.ext_getElem
  · simp
  · intro j h1 h2
    simp [Value.cells, Nat.mod_one]
end Go.Proofs.Ytmhninlndjcikaa
