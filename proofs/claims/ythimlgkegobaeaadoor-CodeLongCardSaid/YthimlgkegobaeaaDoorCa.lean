/- The library's tables, and the words of the operations. -/
import Derived.Test.YthimlgkegobaeaaDoorMc
import Derived.Test.YthimlgkegobaeaaDoorR
import Derived.Test.YthimlgkegobaeaaDoorA
import Derived.Lib.ItoaNum
import Derived.Lib.Space
import Derived.Lib.Fields
namespace Go.Proofs.YthimlgkegobaeaaDoor
open Go.RowKit Go.Shelf Go.Proofs.YthimlgkegobaeaaDoorW.PrintWords Go.Proofs.YthimlgkegobaeaaDoorW.PrintLast Go.Proofs.YthimlgkegobaeaaDoorW.PrintMore
set_option linter.unusedVariables false
set_option linter.unusedSimpArgs false

theorem tabIs_lt {P : Program} {W : World} {name : String} {k : IntKind} {zs : List Int} {g : Nat} (h : Lib.TabIs P W name k zs) (hg : P.globalNamed name = some g) : g < W.heap.size := by
  unfold Lib.TabIs World.var? at h
  rw [hg] at h
  simp only [Option.bind_some] at h
  by_cases e : g < W.heap.size
  · exact e
  · rw [Array.getElem?_eq_none (by omega)] at h
    cases h
theorem tabIs_below {P : Program} {W W' : World} {name : String} {k : IntKind} {zs : List Int} {g : Nat} (h : Lib.TabIs P W name k zs) (hg : P.globalNamed name = some g) (hb : Below W.heap.size W W') : Lib.TabIs P W' name k zs := by
  have hl := tabIs_lt h hg
  unfold Lib.TabIs World.var? at h ⊢
  rw [hg] at h ⊢
  simp only [Option.bind_some] at h ⊢
  rw [hb.block g hl]
  exact h
theorem gAscii : Tryd.prog.globalNamed "strings.asciiSpace" = some 0 := by kernel_rfl
theorem gPow : Tryd.prog.globalNamed "internal/strconv.uint64pow10" = some 5 := by kernel_rfl
theorem gBru : Tryd.prog.globalNamed "math/bits.deBruijn32tab" = some 2 := by kernel_rfl
/-- What of the library's tables the walks read. -/
def CTab (w : World) : Prop := TabAt w ∧ 2 < w.heap.size ∧ Lib.TabIs Tryd.prog w "strings.asciiSpace" .u8 Lib.asciiSpaceTab ∧ Lib.TabIs Tryd.prog w "internal/strconv.uint64pow10" .u64 Lib.pow10Tab
theorem CTab.below {w w' : World} (h : CTab w) (hb : Below w.heap.size w w') : CTab w' :=
  ⟨h.1.below hb, Nat.lt_of_lt_of_le h.2.1 hb.size, tabIs_below h.2.2.1 gAscii hb, tabIs_below h.2.2.2 gPow hb⟩

/-! ### The words -/
def wordsB : ByteArray := ⟨#[115, 116, 111, 112, 32, 115, 101, 116, 32, 108, 111, 97, 100, 32, 115, 116, 111, 114, 101, 32, 108, 111, 97, 100, 97, 116, 32, 115, 116, 111, 114, 101, 97, 116, 32, 97, 100, 100, 32, 115, 117, 98, 32, 109, 117, 108, 32, 100, 105, 118, 32, 109, 111, 100, 32, 97, 110, 100, 32, 111, 114, 32, 120, 111, 114, 32, 115, 104, 108, 32, 115, 104, 114, 32, 108, 101, 115, 115, 32, 101, 113, 117, 97, 108, 32, 115, 101, 108, 101, 99, 116, 32, 98, 114, 97, 110, 99, 104, 32, 106, 117, 109, 112, 32, 109, 111, 118, 101, 32, 114, 101, 118, 101, 97, 108, 32, 114, 111, 108, 108, 32, 115, 104, 117, 102, 102, 108, 101, 32, 99, 108, 111, 99, 107]⟩
/-- The operations' words. -/
def wordL : List (List UInt8) := [[115, 116, 111, 112], [115, 101, 116], [108, 111, 97, 100], [115, 116, 111, 114, 101], [108, 111, 97, 100, 97, 116], [115, 116, 111, 114, 101, 97, 116], [97, 100, 100], [115, 117, 98], [109, 117, 108], [100, 105, 118], [109, 111, 100], [97, 110, 100], [111, 114], [120, 111, 114], [115, 104, 108], [115, 104, 114], [108, 101, 115, 115], [101, 113, 117, 97, 108], [115, 101, 108, 101, 99, 116], [98, 114, 97, 110, 99, 104], [106, 117, 109, 112], [109, 111, 118, 101], [114, 101, 118, 101, 97, 108], [114, 111, 108, 108], [115, 104, 117, 102, 102, 108, 101], [99, 108, 111, 99, 107]]
theorem words_fields : Lib.fields wordsB.data.toList = wordL := by decide +kernel
theorem words_ascii : ∀ (j : Nat) b, wordsB.data.toList[j]? = some b → b.toNat < 128 := by
  have h : ∀ b ∈ wordsB.data.toList, b.toNat < 128 := by decide +kernel
  intro j b hj
  exact h b (List.mem_of_getElem? hj)
/-- The word of an operation; none: there is none. -/
def wordN (op : Nat) : ByteArray := ⟨(wordL.getD op []).toArray⟩
theorem word_ne : ∀ op, op < 26 → (wordN op == (⟨#[]⟩ : ByteArray)) = false := by decide +kernel
theorem word_no (op : Nat) (h : 26 ≤ op) : wordN op = ⟨#[]⟩ := by
  unfold wordN
  rw [List.getD, List.getElem?_eq_none (by simpa [wordL] using h)]; rfl
/-- 'strings.Fields' of the words. -/
theorem fields_any (w : World) (hT : CTab w) :
    Calls Tryd.prog 37 #[.string wordsB] w fun e w' => e = .returned (.slice (some ⟨w.heap.size, 0, none⟩) 26 26) ∧ (∀ j x, wordL[j]? = some x → w'.cell? ⟨w.heap.size, j, none⟩ = some (.string ⟨x.toArray⟩)) ∧ Below w.heap.size w w' := by
  have h := Tryd.strings_Fields wordsB w (by decide +kernel) words_ascii hT.2.2.1
  rw [words_fields] at h
  refine h.mono ?_
  rintro e w' ⟨rfl, rfl⟩
  refine ⟨rfl, ?_, below_alloc (Below.refl _ _) _⟩
  intro j x hj
  rw [cell_of_row _ _ _ _ _ _ (World.alloc_heap_new _ _)]
  simp [hj]
set_option maxRecDepth 100000 in
set_option maxHeartbeats 4000000 in
/-- code.Word. -/
theorem word_any (op : Nat) (hop : op < 256) (w : World) (hT : CTab w) :
    Calls Tryd.prog 16 #[.int .u8 op] w fun e w' => e = .returned (.string (wordN op)) ∧ Below w.heap.size w w' := by
  by_cases h : op < 26
  · obtain ⟨x, hx⟩ : ∃ x, wordL[op]? = some x := ⟨_, List.getElem?_eq_getElem (by simpa [wordL] using h)⟩
    have hwx : wordN op = ⟨x.toArray⟩ := by unfold wordN; rw [List.getD, hx]; rfl
    rw [hwx]
    go_enter Tryd.func16, Tryd.ntmps16
    go_wp2_with (first | (go_at_call 37; refine (fields_any _ hT).mono ?_; rintro e w1 ⟨rfl, hc, hb⟩; have c0 := hc op x hx; clear hc))
    go_ret
    exact ⟨rfl, hb⟩
  · rw [word_no op (by omega)]
    go_enter Tryd.func16, Tryd.ntmps16
    go_wp2_with (first | (go_at_call 37; refine (fields_any _ hT).mono ?_; rintro e w1 ⟨rfl, hc, hb⟩; clear hc))
    go_ret
    exact ⟨rfl, hb⟩
end Go.Proofs.YthimlgkegobaeaaDoor
