/- told: the observers that an iterator hands on, the first ones. -/
import Derived.Test.YthimlgkegobaeaaDoorMb
import Derived.Shelf.RegionOpen
import Derived.Test.YthimlgkegobaeaaDoorSh
namespace Go.Proofs.YthimlgkegobaeaaDoor
open Go.RowKit Go.Shelf Go.Proofs.YthimlgkegobaeaaDoorW.PrintWords Go.Proofs.YthimlgkegobaeaaDoorW.PrintLast Go.Proofs.YthimlgkegobaeaaDoorW.PrintMore
set_option linter.unusedVariables false
set_option linter.unusedSimpArgs false
attribute [local go_sem] Oper.semAt_some

/-- What an observer is in a slice. -/
def vF (x : Fin 32) : Value := .int .i64 (x.val : Int)
theorem obsF_len (m : Nat) : (obsF m).length ≤ 32 := by
  have := List.length_filter_le (fun i : Fin 32 => m.testBit i.val) (List.finRange 32)
  simpa [obsF] using this

theorem infoI : (Tryd.prog.info? 3).map (fun i => (i.zero, i.size, i.bytes)) = some (some (.int .i64 0), 1, 8) := by kernel_rfl

theorem row_base {W : World} {b b' : Nat} {e : TypeId} {size : Nat} {v : Value} {k : Nat} {xs : List Value} (h : b' ≤ b) (hr : W.ownsRow b e size v k xs) : W.ownsRow b' e size v k xs := by
  refine ⟨hr.1, hr.2.imp id ?_⟩
  rintro ⟨g, cap, cur, hv, hg, hr⟩
  exact ⟨g, cap, cur, hv, Nat.le_trans h hg, hr⟩

theorem infoS : (Tryd.prog.info? 9).map (fun i => (i.zero, i.size, i.bytes)) = some (some (.string ⟨#[]⟩), 1, 16) := by kernel_rfl
/-- What an observer is in words. -/
def tF (x : Fin 32) : ByteArray := ⟨(Lib.decDigits x.val).toArray⟩
/-- The words of a mask. -/
def textF (m : Nat) : ByteArray := if obsF m = [] then ⟨#[45]⟩ else ⟨(Lib.join ((obsF m).map fun x => Lib.decDigits x.val) [44]).toArray⟩

theorem dec_len (x : Fin 32) : (tF x).data.toList.length ≤ 2 := by
  have hx := x.isLt
  unfold tF
  unfold Lib.decDigits
  split
  · simp
  · unfold Lib.decDigits
    rw [dif_pos (by omega)]
    simp
theorem join_len : ∀ (xs : List (List UInt8)), (∀ x ∈ xs, x.length ≤ 2) → (Lib.join xs [44]).length ≤ 3 * xs.length := by
  intro xs h
  cases xs with
  | nil => simp [Lib.join_nil]
  | cons x r =>
    rw [Lib.join_cons, List.length_append]
    have h1 := h x (by simp)
    have h2 : (Lib.joinTail [44] r).length ≤ 3 * r.length := by
      have hr : ∀ y ∈ r, y.length ≤ 2 := fun y hy => h y (by simp [hy])
      clear h h1
      induction r with
      | nil => simp [Lib.joinTail]
      | cons y r ih =>
        have := ih (fun z hz => hr z (by simp [hz]))
        have h3 := hr y (by simp)
        simp only [Lib.joinTail, List.map_cons, List.flatten_cons, List.length_append, List.length_cons, List.length_nil] at this ⊢
        omega
    simp only [List.length_cons]
    omega
attribute [-go_sem] Builtin.append_
set_option maxRecDepth 100000 in
set_option maxHeartbeats 4000000 in
theorem text_in (n : Nat) (hn : 3 ≤ n) (m : Nat) (hm : m < 4294967296) (w : World) (hT : TabAt w) (hw : 2 < w.heap.size) :
    CallsIn Fence.wide n Tryd.prog 36 #[.int .u32 m] w fun e W' => e = .returned (.string (textF m)) ∧ Below w.heap.size w W' := by
  have h1 : 1 ≤ n := by omega
  have hlen := obsF_len m
  obtain ⟨i0, hi, hz0, hz1, hz2⟩ := info_parts infoS
  refine callsIn_of_wp_marks Tryd.func36 rfl trivial ?_ rfl
  simp only [Tryd.ntmps36, List.size_toArray, List.length_cons, List.length_nil, Nat.reduceAdd, Nat.reduceSub, Array.replicate_succ, Array.replicate_zero, List.push_toArray, List.append_toArray, List.nil_append, List.cons_append]
  gi_wp2
  refine ⟨trivial, (each_in (n - 1) _ _).mono ?_⟩
  rintro e w' ⟨rfl, row, rfl⟩
  gi_wp2
  have bO := Boxed.new w 70 (.slice none 0 0)
  have bN := World.alloc_heap_new (w.alloc (.cells #[.slice none 0 0] 70)) (.cells #[.int .u32 (m : Int)] row)
  simp only [World.size_alloc] at bN
  have bO1 := (bO.alloc (.cells #[.int .u32 (m : Int)] row))
  have hB0 : Below w.heap.size w ((w.alloc (.cells #[.slice none 0 0] 70)).alloc (.cells #[.int .u32 (m : Int)] row)) := ((Below.refl _ w).alloc (Nat.le_refl _) _).alloc (by simp) _
  obtain ⟨wx, hwx⟩ : ∃ wx, wx = (w.alloc (.cells #[.slice none 0 0] 70)).alloc (.cells #[.int .u32 (m : Int)] row) := ⟨_, rfl⟩
  have hsx : wx.heap.size = w.heap.size + 2 := by rw [hwx]; simp
  have hNc : wx.cell? ⟨w.heap.size + 1, 0, none⟩ = some (.int .u32 (m : Int)) := Boxed.cell (t := row) (by rw [hwx]; exact bN)
  rw [← hwx] at bO1 hB0 ⊢
  refine wpIn_rangeFunc_ownG rfl h1 (gf := 82) (lb := #[.pointer (some ⟨w.heap.size + 1, 0, none⟩)]) rfl trivial (enters_of Tryd.func82 (by kernel_rfl) rfl)
    (each_stops (n - 1) (by omega) (w.heap.size + 1) w.heap.size (by omega) m hm wx (by omega) (by omega) (hT.below hB0) hNc) belowK_t (belowK_b (by omega)) (Below.refl _ _) (fun _ => rfl)
    (fun pre W => (∃ v, Boxed W w.heap.size 70 v ∧ W.ownsRow w.heap.size 9 1 v pre.length (pre.map fun x => Value.string (tF x)) ∧ True) ∧ Below w.heap.size wx W)
    (fun _ _ _ => False)
    ?own (fun _ _ _ _ _ hs _ _ => hs) ⟨⟨_, bO1, World.ownsRow_nil _ _ _ _, trivial⟩, Below.refl _ _⟩
    (fun x => { tmps := #[.int .u32 m, undef, .string ⟨#[]⟩, .pointer (some ⟨w.heap.size, 0, none⟩), .int .i64 (x.val : Int), .int .u32 m, .func (.func 82) #[] #[.pointer (some ⟨w.heap.size + 1, 0, none⟩)], .int .i64 (x.val : Int), undef, undef, undef, undef, undef, undef, undef, undef, undef, undef], defers := [] }) ?assign ?body ?done ?stop
  case own =>
    exact OwnFrom.and (Own.from (holdsRow_own w.heap.size w.heap.size 70 9 1 (fun pre : List (Fin 32) => pre.length) (fun pre => pre.map fun x => Value.string (tF x)) (fun pre v => True)) _) (ownFrom_below (by omega) (by omega))
  case assign =>
    intro l x W K hK
    dsimp only [encF]
    gi_wp2
    exact hK
  case body =>
    rintro l pre x W ⟨⟨v, hv, hrow, -⟩, hB⟩ hpl
    have hc := hv.cell
    have hmx : (40 : Nat) ≤ maxLen := by decide
    have hsz := hB.size
    have hd1 : 1 ≤ n - 1 - 1 := by omega
    have hmx2 : Tryd.prog.follows .mixedOrders = true := by kernel_rfl
    obtain ⟨v', w1, hrunA, hown', hgrow, -⟩ := run_append_own (P := Tryd.prog) (w := (W.alloc (.cells #[.string (tF x)] 9)).drew) w.heap.size 70 70 9 i0 (.string ⟨#[]⟩) 1 16 Tryd.underlying70 hi hz0 hz1 hz2 rfl (by decide) v _ _ ((hrow.alloc _).drew) ⟨W.heap.size, 0, none⟩ 1 1 [.string (tF x)] rfl (fun j u h => cell_one_new W _ _ j u h) (by simp [Value.oneCell']) (by omega) (by omega) (by show w.heap.size ≤ (W.alloc _).heap.size; simp; omega)
    obtain ⟨g', cap', rfl⟩ := ownsRow_succ hown'
    obtain ⟨hv1, hv2, hr2, hk2, hb2⟩ := Boxed.appended (W := W.drew) hv (by decide) hrow.drew (by simp; omega) (by omega) hown' hgrow
    have hc1 := hv1.cell
    have hf1 := hv1.frozen
    dsimp only [tF] at hrunA
    have hc2 : (W.alloc (.cells #[.string ⟨(Lib.decDigits x.val).toArray⟩] 9)).cell? ⟨w.heap.size, 0, none⟩ = some v := (hv.alloc _).cell
    have hc3 : (W.alloc (.cells #[.string ⟨(Lib.decDigits x.val).toArray⟩] 9)).drew.cell? ⟨w.heap.size, 0, none⟩ = some v := hc2
    gi_wp2
    gi_region_with_o (first
      | (refine ⟨trivial, ?_⟩; gi_at_call 34; refine (CallsIn.inRound l (callsIn_wide.2 (Tryd.strconv_Itoa_small x.val (by omega) _))).mono ?_; rintro e w' ⟨rfl, rfl⟩)
      | (gi_at_call 34; refine (CallsIn.inRound l (callsIn_wide.2 (Tryd.strconv_Itoa_small x.val (by omega) _))).mono ?_; rintro e w' ⟨rfl, rfl⟩)
      | fail)
    all_goals gi_wp2
    all_goals exact ⟨((KeepsOthers.drew W).trans hk2).from _, ((Below.refl _ W).drew).trans hb2, ⟨_, hv2, by simpa [tF] using hr2, trivial⟩, hB.trans (((Below.refl _ W).drew).trans hb2)⟩
  case done =>
    rintro D ys W hD rfl ⟨⟨v, hv, hrow, -⟩, hB⟩ hK
    have hc := hv.cell
    rcases hrow.2 with ⟨rfl, h0⟩ | ⟨g, cap, cur, rfl, hg, hgb, hcap, hcm, hcs, htk⟩
    · have hm0 : obsF m = [] := List.eq_nil_of_length_eq_zero h0
      have hte : textF m = ⟨#[45]⟩ := by unfold textF; rw [if_pos hm0]
      gi_wp2
      refine ⟨by simp, .inl ⟨_, _, rfl, run_takeDeferred hK, ?_⟩⟩
      exact ⟨_, results_tmp rfl _ _ _, by rw [hte]; rfl, (hB0.trans hB).trans (belowK_b (w := w) (Nat.le_refl _) W D _ _ (by omega) hK rfl rfl)⟩
    · by_cases hm0 : obsF m = []
      · have hte : textF m = ⟨#[45]⟩ := by unfold textF; rw [if_pos hm0]
        rw [hm0] at hc hv
        gi_wp2
        refine ⟨by simp, .inl ⟨_, _, rfl, run_takeDeferred hK, ?_⟩⟩
        exact ⟨_, results_tmp rfl _ _ _, by rw [hte]; rfl, (hB0.trans hB).trans (belowK_b (w := w) (Nat.le_refl _) W D _ _ (by omega) hK rfl rfl)⟩
      · have hte : textF m = ⟨(Lib.join (((obsF m).map tF).map (·.data.toList)) [44]).toArray⟩ := by
          unfold textF; rw [if_neg hm0]; simp [tF, Function.comp_def]
        have hl0 : ((obsF m).length : Int) ≠ 0 := by have : (obsF m).length ≠ 0 := fun h => hm0 (List.eq_nil_of_length_eq_zero h); omega
        have hcs' := hrow.cells (g := g) rfl
        have hgl : g < W.heap.size := (Array.getElem?_eq_some_iff.1 hgb).1
        have KJ := (callsIn_wide (n := n - 1)).2 (Tryd.strings_Join g 0 cap ((obsF m).map tF) ⟨#[44]⟩ W
          (fun j x hx => by have := hcs' j (.string x) (by simp only [List.getElem?_map, Option.map_eq_some_iff] at hx ⊢; obtain ⟨a, ha, rfl⟩ := hx; exact ⟨a, ha, rfl⟩); cases j <;> simpa [Addr.add] using this)
          hgl (by simp; omega) (by simpa using hcap)
          (Nat.le_trans (join_len _ (by simp only [List.mem_map]; rintro x ⟨y, ⟨a, ha, rfl⟩, rfl⟩; exact dec_len a)) (by simp; omega)))
        simp only [List.length_map] at KJ
        gi_wp2
        refine ⟨trivial, KJ.mono ?_⟩
        rintro e w2 ⟨rfl, hb2⟩
        have hK2 : w2.heap[D]? = some (.deferred (some [])) := (hb2.block D (Array.getElem?_eq_some_iff.1 hK).1).trans hK
        gi_wp2
        refine ⟨by simp, .inl ⟨_, _, rfl, run_takeDeferred hK2, ?_⟩⟩
        exact ⟨_, results_tmp rfl _ _ _, by rw [hte, List.map_map]; rfl, ((hB0.trans hB).trans (hb2.mono (by have := hB.size; omega))).trans (belowK_b (w := w) (Nat.le_refl _) w2 D _ _ (by omega) hK2 rfl rfl)⟩
  case stop =>
    rintro D c pre W _ _ h _
    exact h.elim
/-- The same, as a plain contract. -/
theorem text_any (m : Nat) (hm : m < 4294967296) (w : World) (hT : TabAt w) (hw : 2 < w.heap.size) :
    Calls Tryd.prog 36 #[.int .u32 m] w fun e W' => e = .returned (.string (textF m)) ∧ Below w.heap.size w W' :=
  (callsIn_wide (n := 3)).1 (text_in 3 (by omega) m hm w hT hw)
end Go.Proofs.YthimlgkegobaeaaDoor
