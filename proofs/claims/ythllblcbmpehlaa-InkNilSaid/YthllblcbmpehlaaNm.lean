/- law01: take. -/
import Derived.Test.YthllblcbmpehlaaNl
import Derived.Laws.Tables
namespace Go.Proofs.Ythllblcbmpehlaa
open Go.RowKit Go.Proofs.YthllblcbmpehlaaW.PrintWords Go.Proofs.YthllblcbmpehlaaW.PrintLast Go.Proofs.YthllblcbmpehlaaW.PrintMore
set_option linter.unusedVariables false
set_option linter.unusedSimpArgs false

/-- What take tells: the number, the bytes, what is left, whether it is wrong. -/
def eTake (x : S30) (l : List Int) (bad : Bool) : (Int × List Int) × List Int × Bool :=
  if Int.tmod x.f0 5 = 0 then (((eByte l bad).1, []), (eByte l bad).2) else if Int.tmod x.f0 5 = 1 then (((eFix 2 l bad).1, []), (eFix 2 l bad).2) else if Int.tmod x.f0 5 = 2 then (((eFix 4 l bad).1, []), (eFix 4 l bad).2)
  else if Int.tmod x.f0 5 = 3 then (((eNum x.f3.toNat l bad).1, []), (eNum x.f3.toNat l bad).2) else ((0, (eBlob x.f3.toNat l bad).1), (eBlob x.f3.toNat l bad).2)
def Took (w w' : World) (g B : Nat) (r : (Int × List Int) × List Int × Bool) (vb : Value) : Prop :=
  EyTo w w' g B r.2.1 r.2.2 ∧ (Kd.int .u8).R 5 w' w.heap.size (fun _ => True) vb r.1.2
theorem EyTo.then {w w1 w2 : World} {g B : Nat} {l : List Int} {b : Bool} (h : EyTo w w1 g B l b) (hB : B ≤ w.heap.size) (k : Below w1.heap.size w1 w2) : EyTo w w2 g B l b :=
  ⟨h.1.below (k.mono (Nat.le_trans hB h.2.1.1)) (Nat.le_trans hB h.2.1.1), keepn_then h.2.1 k, h.2.2.trans (k.mono (Nat.le_trans (Nat.le_of_lt (Nat.lt_of_lt_of_le (by obtain ⟨_, _, _, _, _, _, _, h5⟩ := h.1; exact h5) hB)) h.2.1.1))⟩
theorem EyTo.after {w w1 w2 : World} {g B : Nat} {l : List Int} {b : Bool} (hg : g ≤ w.heap.size) (k : Below w.heap.size w w1) (h : EyTo w1 w2 g B l b) : EyTo w w2 g B l b :=
  ⟨h.1, keepn_below k h.2.1, (k.mono hg).trans h.2.2⟩

theorem EyTo.far {w w1 w2 : World} {g B : Nat} {l : List Int} {b : Bool} (h : EyTo w w1 g B l b) (hB : B ≤ w.heap.size) (k : Below w.heap.size w1 w2) : EyTo w w2 g B l b := by
  obtain ⟨_, _, _, _, _, _, _, h5⟩ := id h.1
  exact ⟨h.1.below (k.mono hB) (Nat.le_trans hB h.2.1.1), ⟨Nat.le_trans h.2.1.1 k.size, fun i hi hg hr => (k.block i hi).trans (h.2.1.2 i hi hg hr)⟩, h.2.2.trans (k.mono (by omega))⟩
theorem leN_bounds : ∀ (l : List Int), Bytes l → 0 ≤ leN l ∧ leN l < 256 ^ l.length
  | [], _ => by simp [leN]
  | b :: l, h => by
    have h1 := leN_bounds l (fun x hx => h x (List.mem_cons_of_mem _ hx))
    have h2 := h b (by simp)
    simp only [leN, List.length_cons, Int.pow_succ]
    omega
theorem eByte_bounds (l : List Int) (bad : Bool) (h : Bytes l) : 0 ≤ (eByte l bad).1 ∧ (eByte l bad).1 < 256 := by
  unfold eByte
  split
  · exact ⟨by decide, by decide⟩
  · cases l with
    | nil => exact ⟨by decide, by decide⟩
    | cons b l => exact h b (by simp)
theorem eFix2_bounds (l : List Int) (bad : Bool) (h : Bytes l) : 0 ≤ (eFix 2 l bad).1 ∧ (eFix 2 l bad).1 < 65536 := by
  unfold eFix
  split
  · exact ⟨by decide, by decide⟩
  · have h1 := leN_bounds (l.take 2) (h.take 2)
    rename_i hc
    have : (l.take 2).length = 2 := by rw [List.length_take]; omega
    rw [this] at h1
    exact ⟨h1.1, by have := h1.2; simp only; omega⟩
theorem eFix4_bounds (l : List Int) (bad : Bool) (h : Bytes l) : 0 ≤ (eFix 4 l bad).1 ∧ (eFix 4 l bad).1 < 4294967296 := by
  unfold eFix
  split
  · exact ⟨by decide, by decide⟩
  · have h1 := leN_bounds (l.take 4) (h.take 4)
    rename_i hc
    have : (l.take 4).length = 4 := by rw [List.length_take]; omega
    rw [this] at h1
    exact ⟨h1.1, by have := h1.2; simp only; omega⟩

def blk4 (f0 f1 : Int) (v : Value) (f3 : Int) : Array Value := #[.int .u8 f0, .int .u64 f1, v, .int .u64 f3]
theorem take_info : (Try.prog.info? 30).map (·.size) = some 4 := by kernel_rfl

set_option maxRecDepth 100000 in
set_option maxHeartbeats 4000000 in
theorem take_any (g B : Nat) (l : List Int) (bad : Bool) (x : S30) (A : Option Addr) (c : Nat) (w : World) (hx : Fd x) (hk : Ey w g B l bad) (hB : B ≤ w.heap.size) (hb : Bytes l) (hl : l.length ≤ 1000000) (hm : Int.tmod x.f0 5 = 4 → x.f3 ≤ 1000) :
    Calls Try.prog 23 #[.pointer (some ⟨g, 0, none⟩), .agg #[.int .u8 x.f0, .int .u64 x.f1, .slice A x.f2.length c, .int .u64 x.f3]] w fun e w' => ∃ vb, e = .returned (.agg #[.int .u8 x.f0, .int .u64 (eTake x l bad).1.1, vb, .int .u64 x.f3]) ∧ Took w w' g B (eTake x l bad) vb := by
  obtain ⟨f0, f1, f2, f3⟩ := x
  obtain ⟨⟨h0, h0'⟩, ⟨h1, h1'⟩, h2, h3, h3'⟩ := hx
  simp only at h0 h0' h1 h1' h2 h3 h3' hm
  obtain ⟨n3, rfl⟩ := Int.eq_ofNat_of_zero_le h3
  unfold eTake
  simp only [Int.toNat_natCast]
  obtain ⟨m, hm0, hm5⟩ : ∃ m : Nat, Int.tmod f0 5 = (m : Int) ∧ m < 5 := ⟨(f0 % 5).toNat, by rw [Int.tmod_eq_emod_of_nonneg h0]; omega, by omega⟩
  generalize f2.length = fl at *
  obtain ⟨W, hW⟩ : ∃ W, ((w.alloc (.cells #[.int .u8 f0, .int .u64 f1, .slice A fl c, .int .u64 (n3 : Int)] 30)).alloc (.cells #[.int .u8 0, .int .u64 0, .slice none 0 0, .int .u64 0] 30)).alloc (.cells #[.int .u8 f0, .int .u64 0, .slice none 0 0, .int .u64 (n3 : Int)] 30) = W := ⟨_, rfl⟩
  have hal : Below w.heap.size w W := by rw [← hW]; exact below_alloc (below_alloc (below_alloc (Below.refl _ _) _) _) _
  have q0 : W.heap[w.heap.size]? = some (.cells #[.int .u8 f0, .int .u64 f1, .slice A fl c, .int .u64 (n3 : Int)] 30 (0, 0)) := by rw [← hW]; exact blk_alloc (blk_alloc (blk_new _ _) _) _
  have q1 : W.heap[w.heap.size + 1]? = some (.cells #[.int .u8 0, .int .u64 0, .slice none 0 0, .int .u64 0] 30 (0, 0)) := by rw [← hW]; simpa using blk_alloc (blk_new (w.alloc (.cells #[.int .u8 f0, .int .u64 f1, .slice A fl c, .int .u64 (n3 : Int)] 30)) (.cells #[.int .u8 0, .int .u64 0, .slice none 0 0, .int .u64 0] 30)) (.cells #[.int .u8 f0, .int .u64 0, .slice none 0 0, .int .u64 (n3 : Int)] 30)
  have q2 : W.heap[w.heap.size + 2]? = some (.cells #[.int .u8 f0, .int .u64 0, .slice none 0 0, .int .u64 (n3 : Int)] 30 (0, 0)) := by rw [← hW]; simpa using blk_new ((w.alloc (.cells #[.int .u8 f0, .int .u64 f1, .slice A fl c, .int .u64 (n3 : Int)] 30)).alloc (.cells #[.int .u8 0, .int .u64 0, .slice none 0 0, .int .u64 0] 30)) (.cells #[.int .u8 f0, .int .u64 0, .slice none 0 0, .int .u64 (n3 : Int)] 30)
  have hkW := hk.below (hal.mono hB) hB
  have hgw : g < w.heap.size := hk.lt.1
  have K0 := Aside0.mk (ebyte_any g B l bad W hkW)
  clear hk
  have hcs : m = 0 ∨ m = 1 ∨ m = 2 ∨ m = 3 ∨ m = 4 := by omega
  clear hm5
  rcases hcs with rfl | rfl | rfl | rfl | rfl
  · have hm' : Int.tmod f0 5 = 0 := hm0
    clear hm0 hm
    rw [if_pos hm']
    have hbd := eByte_bounds l bad hb
    obtain ⟨⟨rv, rl, rb⟩, hres⟩ : ∃ y, eByte l bad = y := ⟨_, rfl⟩
    rw [hres] at K0 hbd ⊢
    simp only at K0 hbd ⊢
    have E1 : IntKind.u64.wrap rv = rv := by rw [IntKind.wrap_u64]; omega
    have HW := Aside0.mk hW
    have Q1 := Aside0.mk q1
    have Q2 := Aside0.mk q2
    have HAL := Aside0.mk hal
    have HG := Aside0.mk (⟨hgw, hB⟩ : g < w.heap.size ∧ B ≤ w.heap.size)
    clear q0 q1 q2 hW hkW hal hres hgw hB hb hl h0 h0' h1 h1' h2 h3 h3' hbd
    go_enter Try.func23, Try.ntmps23
    go_wp2_with fail
    rw [HW.out]
    refine K0.out.mono ?_
    rintro e w1 ⟨rfl, h⟩
    have hE := EyTo.after (Nat.le_of_lt HG.out.1) HAL.out h
    have hk2 := h.2.1
    have hsz := hE.2.1.1
    have p1 : w1.heap[w.heap.size + 1]? = some (.cells #[.int .u8 0, .int .u64 0, .slice none 0 0, .int .u64 0] 30 (0, 0)) := (hk2.2 _ (blk_lt Q1.out) (by have := HG.out.1; omega) (by simp)).trans Q1.out
    have p2 : w1.heap[w.heap.size + 1 + 1]? = some (.cells #[.int .u8 f0, .int .u64 0, .slice none 0 0, .int .u64 (n3 : Int)] 30 (0, 0)) := (hk2.2 _ (blk_lt Q2.out) (by have := HG.out.1; omega) (by simp)).trans Q2.out
    have f10 := blk_frozen p1 0
    have c10 := blk_cell p1 0
    have f20 := blk_frozen p2 0
    have c20 := blk_cell p2 0
    have f11 := blk_frozen p1 1
    have c11 := blk_cell p1 1
    have f21 := blk_frozen p2 1
    have c21 := blk_cell p2 1
    have f12 := blk_frozen p1 2
    have c12 := blk_cell p1 2
    have f22 := blk_frozen p2 2
    have c22 := blk_cell p2 2
    have f13 := blk_frozen p1 3
    have c13 := blk_cell p1 3
    have f23 := blk_frozen p2 3
    have c23 := blk_cell p2 3
    have P1 := Aside0.mk p1
    have HE := Aside0.mk hE
    clear h hE hk2 p1 p2 K0
    go_wp2_with fail
    have PF : (((((w1.setCell ⟨w.heap.size + 1 + 1, 1, none⟩ (.int .u64 rv)).setCell ⟨w.heap.size + 1, 0, none⟩ (.int .u8 f0)).setCell ⟨w.heap.size + 1, 1, none⟩ (.int .u64 rv)).setCell ⟨w.heap.size + 1, 2, none⟩ (.slice none 0 0)).setCell ⟨w.heap.size + 1, 3, none⟩ (.int .u64 (n3 : Int))).heap[w.heap.size + 1]? = some (.cells #[.int .u8 f0, .int .u64 rv, .slice none 0 0, .int .u64 (n3 : Int)] 30 (0, 0)) := blk_set (blk_set (blk_set (blk_set ((Below.heap_setCell _ _ _ _ (by simp)).trans P1.out) 0 _) 1 _) 2 _) 3 _
    refine bodyPost_ret (results_cell_row rfl _ _ (w.heap.size + 1) _ #[.int .u8 f0, .int .u64 rv, .slice none 0 0, .int .u64 (n3 : Int)] (0, 0) _ rfl PF Try.underlying30 rfl take_info) rfl ?_
    have hbw : Below w.heap.size w1 (((((w1.setCell ⟨w.heap.size + 1 + 1, 1, none⟩ (.int .u64 rv)).setCell ⟨w.heap.size + 1, 0, none⟩ (.int .u8 f0)).setCell ⟨w.heap.size + 1, 1, none⟩ (.int .u64 rv)).setCell ⟨w.heap.size + 1, 2, none⟩ (.slice none 0 0)).setCell ⟨w.heap.size + 1, 3, none⟩ (.int .u64 (n3 : Int))) := ((((((Below.refl w.heap.size w1).setCell (by show w.heap.size ≤ w.heap.size + 1 + 1; omega) _).setCell (Nat.le_succ _) _).setCell (Nat.le_succ _) _).setCell (Nat.le_succ _) _).setCell (Nat.le_succ _) _)
    exact ⟨_, rfl, HE.out.far HG.out.2 hbw, Kd.R_nil _ _ _ _ _⟩
  · have hm' : Int.tmod f0 5 = 1 := hm0
    have K1 := Aside0.mk (ehalf_any g B l bad W hkW hb)
    clear hm0 hm
    rw [if_neg (by rw [hm']; decide), if_pos hm']
    have hbd := eFix2_bounds l bad hb
    obtain ⟨⟨rv, rl, rb⟩, hres⟩ : ∃ y, eFix 2 l bad = y := ⟨_, rfl⟩
    rw [hres] at K1 hbd ⊢
    simp only at K1 hbd ⊢
    have E1 : IntKind.u64.wrap rv = rv := by rw [IntKind.wrap_u64]; omega
    have HW := Aside0.mk hW
    have Q1 := Aside0.mk q1
    have Q2 := Aside0.mk q2
    have HAL := Aside0.mk hal
    have HG := Aside0.mk (⟨hgw, hB⟩ : g < w.heap.size ∧ B ≤ w.heap.size)
    clear q0 q1 q2 hW hkW hal hres hgw hB hb hl h0 h0' h1 h1' h2 h3 h3' hbd
    clear K0
    go_enter Try.func23, Try.ntmps23
    go_wp2_with fail
    rw [HW.out]
    refine K1.out.mono ?_
    rintro e w1 ⟨rfl, h⟩
    have hE := EyTo.after (Nat.le_of_lt HG.out.1) HAL.out h
    have hk2 := h.2.1
    have hsz := hE.2.1.1
    have p1 : w1.heap[w.heap.size + 1]? = some (.cells #[.int .u8 0, .int .u64 0, .slice none 0 0, .int .u64 0] 30 (0, 0)) := (hk2.2 _ (blk_lt Q1.out) (by have := HG.out.1; omega) (by simp)).trans Q1.out
    have p2 : w1.heap[w.heap.size + 1 + 1]? = some (.cells #[.int .u8 f0, .int .u64 0, .slice none 0 0, .int .u64 (n3 : Int)] 30 (0, 0)) := (hk2.2 _ (blk_lt Q2.out) (by have := HG.out.1; omega) (by simp)).trans Q2.out
    have f10 := blk_frozen p1 0
    have c10 := blk_cell p1 0
    have f20 := blk_frozen p2 0
    have c20 := blk_cell p2 0
    have f11 := blk_frozen p1 1
    have c11 := blk_cell p1 1
    have f21 := blk_frozen p2 1
    have c21 := blk_cell p2 1
    have f12 := blk_frozen p1 2
    have c12 := blk_cell p1 2
    have f22 := blk_frozen p2 2
    have c22 := blk_cell p2 2
    have f13 := blk_frozen p1 3
    have c13 := blk_cell p1 3
    have f23 := blk_frozen p2 3
    have c23 := blk_cell p2 3
    have P1 := Aside0.mk p1
    have HE := Aside0.mk hE
    clear h hE hk2 p1 p2 K1
    go_wp2_with fail
    have PF : (((((w1.setCell ⟨w.heap.size + 1 + 1, 1, none⟩ (.int .u64 rv)).setCell ⟨w.heap.size + 1, 0, none⟩ (.int .u8 f0)).setCell ⟨w.heap.size + 1, 1, none⟩ (.int .u64 rv)).setCell ⟨w.heap.size + 1, 2, none⟩ (.slice none 0 0)).setCell ⟨w.heap.size + 1, 3, none⟩ (.int .u64 (n3 : Int))).heap[w.heap.size + 1]? = some (.cells #[.int .u8 f0, .int .u64 rv, .slice none 0 0, .int .u64 (n3 : Int)] 30 (0, 0)) := blk_set (blk_set (blk_set (blk_set ((Below.heap_setCell _ _ _ _ (by simp)).trans P1.out) 0 _) 1 _) 2 _) 3 _
    refine bodyPost_ret (results_cell_row rfl _ _ (w.heap.size + 1) _ #[.int .u8 f0, .int .u64 rv, .slice none 0 0, .int .u64 (n3 : Int)] (0, 0) _ rfl PF Try.underlying30 rfl take_info) rfl ?_
    have hbw : Below w.heap.size w1 (((((w1.setCell ⟨w.heap.size + 1 + 1, 1, none⟩ (.int .u64 rv)).setCell ⟨w.heap.size + 1, 0, none⟩ (.int .u8 f0)).setCell ⟨w.heap.size + 1, 1, none⟩ (.int .u64 rv)).setCell ⟨w.heap.size + 1, 2, none⟩ (.slice none 0 0)).setCell ⟨w.heap.size + 1, 3, none⟩ (.int .u64 (n3 : Int))) := ((((((Below.refl w.heap.size w1).setCell (by show w.heap.size ≤ w.heap.size + 1 + 1; omega) _).setCell (Nat.le_succ _) _).setCell (Nat.le_succ _) _).setCell (Nat.le_succ _) _).setCell (Nat.le_succ _) _)
    exact ⟨_, rfl, HE.out.far HG.out.2 hbw, Kd.R_nil _ _ _ _ _⟩
  · have hm' : Int.tmod f0 5 = 2 := hm0
    have K2 := Aside0.mk (eword_any g B l bad W hkW hb)
    clear hm0 hm
    rw [if_neg (by rw [hm']; decide), if_neg (by rw [hm']; decide), if_pos hm']
    have hbd := eFix4_bounds l bad hb
    obtain ⟨⟨rv, rl, rb⟩, hres⟩ : ∃ y, eFix 4 l bad = y := ⟨_, rfl⟩
    rw [hres] at K2 hbd ⊢
    simp only at K2 hbd ⊢
    have E1 : IntKind.u64.wrap rv = rv := by rw [IntKind.wrap_u64]; omega
    have HW := Aside0.mk hW
    have Q1 := Aside0.mk q1
    have Q2 := Aside0.mk q2
    have HAL := Aside0.mk hal
    have HG := Aside0.mk (⟨hgw, hB⟩ : g < w.heap.size ∧ B ≤ w.heap.size)
    clear q0 q1 q2 hW hkW hal hres hgw hB hb hl h0 h0' h1 h1' h2 h3 h3' hbd
    clear K0
    go_enter Try.func23, Try.ntmps23
    go_wp2_with fail
    rw [HW.out]
    refine K2.out.mono ?_
    rintro e w1 ⟨rfl, h⟩
    have hE := EyTo.after (Nat.le_of_lt HG.out.1) HAL.out h
    have hk2 := h.2.1
    have hsz := hE.2.1.1
    have p1 : w1.heap[w.heap.size + 1]? = some (.cells #[.int .u8 0, .int .u64 0, .slice none 0 0, .int .u64 0] 30 (0, 0)) := (hk2.2 _ (blk_lt Q1.out) (by have := HG.out.1; omega) (by simp)).trans Q1.out
    have p2 : w1.heap[w.heap.size + 1 + 1]? = some (.cells #[.int .u8 f0, .int .u64 0, .slice none 0 0, .int .u64 (n3 : Int)] 30 (0, 0)) := (hk2.2 _ (blk_lt Q2.out) (by have := HG.out.1; omega) (by simp)).trans Q2.out
    have f10 := blk_frozen p1 0
    have c10 := blk_cell p1 0
    have f20 := blk_frozen p2 0
    have c20 := blk_cell p2 0
    have f11 := blk_frozen p1 1
    have c11 := blk_cell p1 1
    have f21 := blk_frozen p2 1
    have c21 := blk_cell p2 1
    have f12 := blk_frozen p1 2
    have c12 := blk_cell p1 2
    have f22 := blk_frozen p2 2
    have c22 := blk_cell p2 2
    have f13 := blk_frozen p1 3
    have c13 := blk_cell p1 3
    have f23 := blk_frozen p2 3
    have c23 := blk_cell p2 3
    have P1 := Aside0.mk p1
    have HE := Aside0.mk hE
    clear h hE hk2 p1 p2 K2
    go_wp2_with fail
    have PF : (((((w1.setCell ⟨w.heap.size + 1 + 1, 1, none⟩ (.int .u64 rv)).setCell ⟨w.heap.size + 1, 0, none⟩ (.int .u8 f0)).setCell ⟨w.heap.size + 1, 1, none⟩ (.int .u64 rv)).setCell ⟨w.heap.size + 1, 2, none⟩ (.slice none 0 0)).setCell ⟨w.heap.size + 1, 3, none⟩ (.int .u64 (n3 : Int))).heap[w.heap.size + 1]? = some (.cells #[.int .u8 f0, .int .u64 rv, .slice none 0 0, .int .u64 (n3 : Int)] 30 (0, 0)) := blk_set (blk_set (blk_set (blk_set ((Below.heap_setCell _ _ _ _ (by simp)).trans P1.out) 0 _) 1 _) 2 _) 3 _
    refine bodyPost_ret (results_cell_row rfl _ _ (w.heap.size + 1) _ #[.int .u8 f0, .int .u64 rv, .slice none 0 0, .int .u64 (n3 : Int)] (0, 0) _ rfl PF Try.underlying30 rfl take_info) rfl ?_
    have hbw : Below w.heap.size w1 (((((w1.setCell ⟨w.heap.size + 1 + 1, 1, none⟩ (.int .u64 rv)).setCell ⟨w.heap.size + 1, 0, none⟩ (.int .u8 f0)).setCell ⟨w.heap.size + 1, 1, none⟩ (.int .u64 rv)).setCell ⟨w.heap.size + 1, 2, none⟩ (.slice none 0 0)).setCell ⟨w.heap.size + 1, 3, none⟩ (.int .u64 (n3 : Int))) := ((((((Below.refl w.heap.size w1).setCell (by show w.heap.size ≤ w.heap.size + 1 + 1; omega) _).setCell (Nat.le_succ _) _).setCell (Nat.le_succ _) _).setCell (Nat.le_succ _) _).setCell (Nat.le_succ _) _)
    exact ⟨_, rfl, HE.out.far HG.out.2 hbw, Kd.R_nil _ _ _ _ _⟩
  · have hm' : Int.tmod f0 5 = 3 := hm0
    have K3 := Aside0.mk (enum_any g B l bad n3 W hkW hb (by omega))
    clear hm0 hm
    rw [if_neg (by rw [hm']; decide), if_neg (by rw [hm']; decide), if_neg (by rw [hm']; decide), if_pos hm']
    obtain ⟨⟨rv, rl, rb⟩, hres⟩ : ∃ y, eNum n3 l bad = y := ⟨_, rfl⟩
    rw [hres] at K3 ⊢
    simp only at K3 ⊢
    have HW := Aside0.mk hW
    have Q1 := Aside0.mk q1
    have Q2 := Aside0.mk q2
    have HAL := Aside0.mk hal
    have HG := Aside0.mk (⟨hgw, hB⟩ : g < w.heap.size ∧ B ≤ w.heap.size)
    have c3 := blk_cell q0 3
    have Q0 := Aside0.mk q0
    clear q0 q1 q2 hW hkW hal hres hgw hB hb hl h0 h0' h1 h1' h2 h3 h3'
    clear K0
    go_enter Try.func23, Try.ntmps23
    go_wp2_with fail
    rw [HW.out]
    refine K3.out.mono ?_
    rintro e w1 ⟨rfl, h⟩
    have hE := EyTo.after (Nat.le_of_lt HG.out.1) HAL.out h
    have hk2 := h.2.1
    have hsz := hE.2.1.1
    have p1 : w1.heap[w.heap.size + 1]? = some (.cells #[.int .u8 0, .int .u64 0, .slice none 0 0, .int .u64 0] 30 (0, 0)) := (hk2.2 _ (blk_lt Q1.out) (by have := HG.out.1; omega) (by simp)).trans Q1.out
    have p2 : w1.heap[w.heap.size + 1 + 1]? = some (.cells #[.int .u8 f0, .int .u64 0, .slice none 0 0, .int .u64 (n3 : Int)] 30 (0, 0)) := (hk2.2 _ (blk_lt Q2.out) (by have := HG.out.1; omega) (by simp)).trans Q2.out
    have f10 := blk_frozen p1 0
    have c10 := blk_cell p1 0
    have f20 := blk_frozen p2 0
    have c20 := blk_cell p2 0
    have f11 := blk_frozen p1 1
    have c11 := blk_cell p1 1
    have f21 := blk_frozen p2 1
    have c21 := blk_cell p2 1
    have f12 := blk_frozen p1 2
    have c12 := blk_cell p1 2
    have f22 := blk_frozen p2 2
    have c22 := blk_cell p2 2
    have f13 := blk_frozen p1 3
    have c13 := blk_cell p1 3
    have f23 := blk_frozen p2 3
    have c23 := blk_cell p2 3
    have P1 := Aside0.mk p1
    have HE := Aside0.mk hE
    clear h hE hk2 p1 p2 K3
    go_wp2_with fail
    have PF : (((((w1.setCell ⟨w.heap.size + 1 + 1, 1, none⟩ (.int .u64 rv)).setCell ⟨w.heap.size + 1, 0, none⟩ (.int .u8 f0)).setCell ⟨w.heap.size + 1, 1, none⟩ (.int .u64 rv)).setCell ⟨w.heap.size + 1, 2, none⟩ (.slice none 0 0)).setCell ⟨w.heap.size + 1, 3, none⟩ (.int .u64 (n3 : Int))).heap[w.heap.size + 1]? = some (.cells #[.int .u8 f0, .int .u64 rv, .slice none 0 0, .int .u64 (n3 : Int)] 30 (0, 0)) := blk_set (blk_set (blk_set (blk_set ((Below.heap_setCell _ _ _ _ (by simp)).trans P1.out) 0 _) 1 _) 2 _) 3 _
    refine bodyPost_ret (results_cell_row rfl _ _ (w.heap.size + 1) _ #[.int .u8 f0, .int .u64 rv, .slice none 0 0, .int .u64 (n3 : Int)] (0, 0) _ rfl PF Try.underlying30 rfl take_info) rfl ?_
    have hbw : Below w.heap.size w1 (((((w1.setCell ⟨w.heap.size + 1 + 1, 1, none⟩ (.int .u64 rv)).setCell ⟨w.heap.size + 1, 0, none⟩ (.int .u8 f0)).setCell ⟨w.heap.size + 1, 1, none⟩ (.int .u64 rv)).setCell ⟨w.heap.size + 1, 2, none⟩ (.slice none 0 0)).setCell ⟨w.heap.size + 1, 3, none⟩ (.int .u64 (n3 : Int))) := ((((((Below.refl w.heap.size w1).setCell (by show w.heap.size ≤ w.heap.size + 1 + 1; omega) _).setCell (Nat.le_succ _) _).setCell (Nat.le_succ _) _).setCell (Nat.le_succ _) _).setCell (Nat.le_succ _) _)
    exact ⟨_, rfl, HE.out.far HG.out.2 hbw, Kd.R_nil _ _ _ _ _⟩
  · have hm' : Int.tmod f0 5 = 4 := hm0
    have hm4 := hm hm0
    have K4 := Aside0.mk (eblob_any g B l bad n3 W hkW hb hl (by omega))
    clear hm0 hm
    rw [if_neg (by rw [hm']; decide), if_neg (by rw [hm']; decide), if_neg (by rw [hm']; decide), if_neg (by rw [hm']; decide)]
    obtain ⟨⟨rv, rl, rb⟩, hres⟩ : ∃ y, eBlob n3 l bad = y := ⟨_, rfl⟩
    rw [hres] at K4 ⊢
    simp only at K4 ⊢
    have E1 : IntKind.i64.wrap (n3 : Int) = (n3 : Int) := by rw [IntKind.wrap_i64]; omega
    have HW := Aside0.mk hW
    have Q1 := Aside0.mk q1
    have Q2 := Aside0.mk q2
    have HAL := Aside0.mk hal
    have HG := Aside0.mk (⟨hgw, hB⟩ : g < w.heap.size ∧ B ≤ w.heap.size)
    have c3 := blk_cell q0 3
    have Q0 := Aside0.mk q0
    clear q0 q1 q2 hW hkW hal hres hgw hB hb hl h0 h0' h1 h1' h2 h3 h3' hm4
    clear K0
    go_enter Try.func23, Try.ntmps23
    go_wp2_with fail
    rw [HW.out]
    refine K4.out.mono ?_
    rintro e w1 ⟨w0, vo, rfl, h, ho, hbo⟩
    obtain ⟨Qo, do_, hvo⟩ := Kd.R_slice ho
    obtain ⟨lo, hlo⟩ : ∃ lo, rv.length = lo := ⟨_, rfl⟩
    rw [hlo] at hvo
    subst hvo
    clear hlo
    have hk2 := keepn_then h.2.1 hbo
    have hE := (EyTo.after (Nat.le_of_lt HG.out.1) HAL.out h).then HG.out.2 hbo
    have hsz := hE.2.1.1
    have p1 : w1.heap[w.heap.size + 1]? = some (.cells #[.int .u8 0, .int .u64 0, .slice none 0 0, .int .u64 0] 30 (0, 0)) := (hk2.2 _ (blk_lt Q1.out) (by have := HG.out.1; omega) (by simp)).trans Q1.out
    have p2 : w1.heap[w.heap.size + 1 + 1]? = some (.cells #[.int .u8 f0, .int .u64 0, .slice none 0 0, .int .u64 (n3 : Int)] 30 (0, 0)) := (hk2.2 _ (blk_lt Q2.out) (by have := HG.out.1; omega) (by simp)).trans Q2.out
    have f10 := blk_frozen p1 0
    have c10 := blk_cell p1 0
    have f20 := blk_frozen p2 0
    have c20 := blk_cell p2 0
    have f11 := blk_frozen p1 1
    have c11 := blk_cell p1 1
    have f21 := blk_frozen p2 1
    have c21 := blk_cell p2 1
    have f12 := blk_frozen p1 2
    have c12 := blk_cell p1 2
    have f22 := blk_frozen p2 2
    have c22 := blk_cell p2 2
    have f13 := blk_frozen p1 3
    have c13 := blk_cell p1 3
    have f23 := blk_frozen p2 3
    have c23 := blk_cell p2 3
    have P1 := Aside0.mk p1
    have HE := Aside0.mk hE
    have HO := Aside0.mk ho
    have HS0 := Aside0.mk (show w.heap.size + 2 < w0.heap.size from Nat.lt_of_lt_of_le (blk_lt Q2.out) h.2.1.1)
    clear h hE hk2 p1 p2 K4 ho hbo
    go_wp2_with fail
    have PF : (((((w1.setCell ⟨w.heap.size + 1 + 1, 2, none⟩ (.slice Qo lo do_)).setCell ⟨w.heap.size + 1, 0, none⟩ (.int .u8 f0)).setCell ⟨w.heap.size + 1, 1, none⟩ (.int .u64 0)).setCell ⟨w.heap.size + 1, 2, none⟩ (.slice Qo lo do_)).setCell ⟨w.heap.size + 1, 3, none⟩ (.int .u64 (n3 : Int))).heap[w.heap.size + 1]? = some (.cells #[.int .u8 f0, .int .u64 0, .slice Qo lo do_, .int .u64 (n3 : Int)] 30 (0, 0)) := blk_set (blk_set (blk_set (blk_set ((Below.heap_setCell _ _ _ _ (by simp)).trans P1.out) 0 _) 1 _) 2 _) 3 _
    refine bodyPost_ret (results_cell_row rfl _ _ (w.heap.size + 1) _ #[.int .u8 f0, .int .u64 0, .slice Qo lo do_, .int .u64 (n3 : Int)] (0, 0) _ rfl PF Try.underlying30 rfl take_info) rfl ?_
    have hbw : Below w.heap.size w1 (((((w1.setCell ⟨w.heap.size + 1 + 1, 2, none⟩ (.slice Qo lo do_)).setCell ⟨w.heap.size + 1, 0, none⟩ (.int .u8 f0)).setCell ⟨w.heap.size + 1, 1, none⟩ (.int .u64 0)).setCell ⟨w.heap.size + 1, 2, none⟩ (.slice Qo lo do_)).setCell ⟨w.heap.size + 1, 3, none⟩ (.int .u64 (n3 : Int))) := ((((((Below.refl w.heap.size w1).setCell (by show w.heap.size ≤ w.heap.size + 1 + 1; omega) _).setCell (Nat.le_succ _) _).setCell (Nat.le_succ _) _).setCell (Nat.le_succ _) _).setCell (Nat.le_succ _) _)
    refine ⟨_, rfl, HE.out.far HG.out.2 hbw, ?_⟩
    have hs0 := HS0.out
    have h9 := Kd.R_mono (Kd.R_bound HO.out) (ok' := fun b => w0.heap.size ≤ b) (fun b hb => hb.2.1)
    refine Kd.R_lower (base := w0.heap.size) (Kd.R_mono (ok := fun b => w0.heap.size ≤ b) ?_ (fun _ _ => trivial)) (by omega)
    refine Kd.R_far (Kd.R_far (Kd.R_far (Kd.R_far (Kd.R_far h9 ?_ _) ?_ _) ?_ _) ?_ _) ?_ _
    all_goals (intro b hb; simp only; omega)
end Go.Proofs.Ythllblcbmpehlaa
