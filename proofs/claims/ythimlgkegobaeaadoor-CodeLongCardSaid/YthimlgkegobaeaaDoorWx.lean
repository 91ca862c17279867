/- Contracts of wax.Table's methods and of bytes.Clone. -/
import Derived.Test.YthimlgkegobaeaaDoorA
import Derived.Test.YthimlgkegobaeaaDoorChecked
import Derived.WalkSpells
import Derived.Deep.QuietTactic
import Derived.BigQuiet
import Derived.Deep.RegionWith
import Derived.Deep.RegionLaw
namespace Go.Proofs.YthimlgkegobaeaaDoor
open Go.RowKit Go.Proofs.YthimlgkegobaeaaDoorW.PrintWords Go.Proofs.YthimlgkegobaeaaDoorW.PrintLast Go.Proofs.YthimlgkegobaeaaDoorW.PrintMore
set_option linter.unusedVariables false
set_option linter.unusedSimpArgs false

theorem wx_info5 : (Tryd.prog.info? 5).map (fun i => (i.zero, i.size, i.bytes)) = some (some (.int .u8 0), 1, 1) := by kernel_rfl

set_option maxHeartbeats 800000 in
/-- bytes.Clone. -/
theorem clone_any (A : Option Addr) (n c : Nat) (l : List Int) (w : World) (hr : (Kd.int .u8).C w A n l) (hl : n ≤ 140737488351232) :
    Calls Tryd.prog 69 #[.slice A n c] w fun e w' => ∃ v, e = .returned v ∧ (Kd.int .u8).R 5 w' w.heap.size (fun _ => True) v l ∧ Below w.heap.size w w' := by
  obtain rfl := hr.1
  have HR := Aside0.mk hr
  clear hr
  have q22 : ∀ (w : World) (a : Option Addr) (n c n' c' : Nat), (binOp .eql 36 (.slice a n c) (.slice none n' c')).run Tryd.prog w = .ok (.bool a.isNone) w := fun w a n c n' c' => Lib.run_eql_slice_nil w _ _ a n c n' c' Tryd.underlying36
  cases A with
  | none =>
    have h0 : l = [] := C_none HR.out
    subst h0
    go_enter Tryd.func69, Tryd.ntmps69
    go_wp2
    go_ret
    exact ⟨_, rfl, Kd.R_nil _ _ _ _ _, Below.refl _ _⟩
  | some ad =>
    go_enter Tryd.func69, Tryd.ntmps69
    go_wp2_with (at_builtin; go_loud (refine Kd.R_append_row (Value.int .u8) (0 : Int) (h1 := fun _ => rfl) (w0 := w) w.heap.size rfl (.tmp 5) (.tmp 6) 36 5 (.int .u8 0) 1 rfl Tryd.underlying36 wx_info5 rfl (by decide) (.slice (some ⟨w.heap.size, 0, none⟩) 0 0) [] l (some ad) l.length c (fun _ => True) rfl rfl (fun _ _ => trivial) ?aO ?aR ?aB ?aS ?aL ?_))
    case aO => exact R_made0 _ _ _ _ (Nat.le_refl _)
    case aR => exact Kd.C_alloc HR.out _
    case aB => exact below_alloc (Below.refl _ _) _
    case aS => simp
    case aL => simp; omega
    intro v1 w1 ho hb _ _
    have HO := Aside0.mk ho
    have HB := Aside0.mk hb
    clear ho hb
    go_wp2
    go_ret
    exact ⟨_, rfl, HO.out, HB.out⟩

/-! ### The sum, in plain numbers -/
def bitN (s : Nat) : Nat := s / 2 ^^^ s % 2 * 2197175160
def bits8 : Nat → Nat → Nat
  | 0, s => s
  | k + 1, s => bitN (bits8 k s)
def stepN (s b : Nat) : Nat := bits8 8 (s ^^^ b)
theorem bitN_lt {s : Nat} (h : s < 4294967296) : bitN s < 4294967296 := Nat.xor_lt_two_pow (n := 32) (by omega) (by omega)
theorem bits8_lt : ∀ (k : Nat) {s : Nat}, s < 4294967296 → bits8 k s < 4294967296
  | 0, _, h => h
  | k + 1, _, h => bitN_lt (bits8_lt k h)
def tstep (tb : Nat → Nat) (s : Nat) (b : Int) : Nat := s / 256 ^^^ tb (s % 256 ^^^ b.toNat)
def tsum (tb : Nat → Nat) (s : Nat) (l : List Int) : Nat := l.foldl (tstep tb) s
theorem tstep_lt {tb : Nat → Nat} (h : ∀ i, tb i < 4294967296) {s : Nat} (hs : s < 4294967296) (b : Int) : tstep tb s b < 4294967296 :=
  Nat.xor_lt_two_pow (n := 32) (by omega) (h _)
theorem tsum_lt {tb : Nat → Nat} (h : ∀ i, tb i < 4294967296) : ∀ (l : List Int) {s : Nat}, s < 4294967296 → tsum tb s l < 4294967296
  | [], _, hs => hs
  | b :: l, _, hs => tsum_lt h l (tstep_lt h hs b)
theorem tsum_append (tb : Nat → Nat) (s : Nat) (a b : List Int) : tsum tb s (a ++ b) = tsum tb (tsum tb s a) b := List.foldl_append
theorem tsum_snoc (tb : Nat → Nat) (s : Nat) (a : List Int) (b : Int) : tsum tb s (a ++ [b]) = tstep tb (tsum tb s a) b := tsum_append tb s a [b]
/-- A table's cells: tb's numbers. -/
structure IsTab (tb : Nat → Nat) (T : Array Value) : Prop where
  size : T.size = 256
  lt : ∀ i, tb i < 4294967296
  at_ : ∀ i, i < 256 → T[i]? = some (.int .u32 (tb i : Nat))
theorem IsTab.one {tb : Nat → Nat} {T : Array Value} (h : IsTab tb T) : T.all (fun x => x.oneCell') = true := by
  rw [Array.all_eq_true]
  intro i hi
  have := h.at_ i (by have := h.size; omega)
  rw [Array.getElem?_eq_getElem hi] at this
  rw [Option.some.inj this]; rfl
def sumN (tb : Nat → Nat) (l : List Int) : Nat := 4294967295 - tsum tb 4294967295 l

/-! ### Step -/
/-! ### Sum -/
end Go.Proofs.YthimlgkegobaeaaDoor
