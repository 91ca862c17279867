/- law01: awake; pens beside one another; fields that are read. -/
import Derived.Test.YthllblcbmpehlaaNg
namespace Go.Proofs.Ythllblcbmpehlaa
open Go.RowKit Go.Proofs.YthllblcbmpehlaaW.PrintWords Go.Proofs.YthllblcbmpehlaaW.PrintLast Go.Proofs.YthllblcbmpehlaaW.PrintMore
set_option linter.unusedVariables false
set_option linter.unusedSimpArgs false

theorem num300 : numN 300 = [172, 2] := by rw [numN_hi (by decide), numN_lo (by decide)]; rfl
theorem low258 : lowN 258 2 = [2, 1] := by decide
theorem pen_new {w : World} {b g : Nat} (h : w.heap[g]? = some (.cells #[.slice none 0 0] 27 (0, 0))) : Pn w b g [] (.slice none 0 0) := ⟨h, Kd.R_nil _ _ _ _ _⟩

set_option maxHeartbeats 2000000 in
theorem awake_any (w : World) : Calls Try.prog 9 #[] w fun e w' => e = .returned (.bool true) ∧ Below w.heap.size w w' := by
  have hp : Pn (w.alloc (.cells #[.slice none 0 0] 27)) w.heap.size w.heap.size [] (.slice none 0 0) := pen_new (blk_new _ _)
  have K1 := Aside0.mk (phalf_any w.heap.size w.heap.size [] (.slice none 0 0) 258 (by decide) _ hp (Nat.le_refl _) (by simp))
  have HB0 := Aside0.mk (below_alloc (Below.refl w.heap.size w) (.cells #[.slice none 0 0] 27))
  rw [low258] at K1
  clear hp
  go_enter Try.func9, Try.ntmps9
  go_wp2_with fail
  refine K1.out.mono ?_
  rintro e w1 ⟨v1, rfl, h⟩
  have K2 := Aside0.mk (pnum_any w.heap.size w.heap.size [2, 1] v1 300 (by decide) w1 h.1 (Nat.le_refl _) (by simp))
  have HB1 := Aside0.mk (HB0.out.trans h.2.2.2)
  rw [num300] at K2
  clear h K1 HB0
  go_wp2_with fail
  refine K2.out.mono ?_
  rintro e w2 ⟨v2, rfl, h⟩
  have K3 := Aside0.mk (pbytes_any w.heap.size w.heap.size [2, 1, 172, 2] v2 w2 h.1 (by simp))
  have HB2 := Aside0.mk (HB1.out.trans h.2.2.2)
  clear h K2 HB1
  go_wp2_with fail
  refine K3.out.mono ?_
  rintro e w3 ⟨vo, rfl, h, hb⟩
  obtain ⟨Q, d, hv⟩ := Kd.R_slice h
  obtain rfl : vo = .slice Q 4 d := hv
  obtain ⟨r1, r2, r3⟩ := Rn_C h
  have HB3 := Aside0.mk (below_step HB2.out hb)
  have HC3 := Aside0.mk (Kd.C_alloc r3 (.cells #[.int .u8 2, .int .u8 1, .int .u8 172, .int .u8 2] 5))
  have HB4 := Aside0.mk (below_step HB3.out (below_alloc (Below.refl _ _) (.cells #[.int .u8 2, .int .u8 1, .int .u8 172, .int .u8 2] 5)))
  have HD3 := Aside0.mk r2
  have HE3 := Aside0.mk (row8_C (q := [2, 1, 172, 2]) (blk_new w3 (.cells #[.int .u8 2, .int .u8 1, .int .u8 172, .int .u8 2] 5)) rfl (by simp))
  clear h hb r1 r2 r3 K3 HB2 HB3
  go_wp2_with fail
  refine (same_is true _ _ _ _ _ _ _ _ _ HC3.out HD3.out HE3.out (Nat.le_refl _) (by simp)).mono ?_
  rintro e w4 ⟨rfl, nd, rfl⟩
  have HB5 := Aside0.mk (pw_below_drewN HB4.out nd)
  have HC5 := Aside0.mk (Kd.C_drewN HC3.out nd)
  clear HC3 HE3 HB4
  generalize (w3.alloc (.cells #[.int .u8 2, .int .u8 1, .int .u8 172, .int .u8 2] 5)).drewN nd = w5 at *
  go_wp2_with fail
  refine (read_any _ _ _ _ _ HC5.out (by decide)).mono ?_
  rintro e w6 ⟨g, rfl, hg, hE, hb⟩
  have K4 := Aside0.mk (ehalf_any g _ _ _ w6 hE (by intro b hb; simp at hb; omega))
  have HB6 := Aside0.mk (below_step HB5.out hb)
  have HG := Aside0.mk (Nat.le_trans HB5.out.size hg)
  have HV : (eFix 2 [2, 1, 172, 2] false).1 = 258 := by decide
  rw [HV] at K4
  clear hE hb hg HV HB5 HC5
  go_wp2_with fail
  refine K4.out.mono ?_
  rintro e w7 ⟨rfl, h⟩
  have HB7 := Aside0.mk (HB6.out.trans (h.2.2.mono HG.out))
  clear h K4 HB6
  go_wp2_with fail
  go_ret
  exact ⟨rfl, HB7.out⟩

/-! ### Pens beside one another -/
def Ap (u v : Value) : Prop := ∀ b, u.ownBlock = some b → v.ownBlock ≠ some b
theorem Ap.symm {u v : Value} (h : Ap u v) : Ap v u := fun b hb e => h b e hb
theorem Ap.nil (v : Value) : Ap (.slice none 0 0) v := fun b hb => by simp [Value.ownBlock] at hb
theorem PPut.pair {w w' : World} {base base2 g g2 : Nat} {v v' v2 : Value} {p p' p2 : List Int} (h : PPut w w' base g v p' v') (hk : Pn w base g p v) (h2 : Pn w base2 g2 p2 v2) (hne : g2 ≠ g) (ha : Ap v2 v) : Pn w' base2 g2 p2 v2 ∧ Ap v2 v' :=
  h.other h2 hne (fun e => Kd.R_ne hk.2 h2.1 (by decide) e.symm) (fun b hb => ⟨fun e => Kd.R_ne h2.2 hk.1 (by decide) (by rw [← e]; exact hb.symm), ha b hb⟩)

/-! ### Fields that are read -/
theorem field_at {w : World} {A : Option Addr} {n : Nat} {xs : List S30} (h : k30.C w A n xs) (j : Nat) (hj : j < xs.length) :
    ∃ ad B c, A = some ad ∧ w.cell? (ad.add (j * 4)) = some (.int .u8 xs[j].f0) ∧ w.cell? ⟨(ad.add (j * 4)).block, (ad.add (j * 4)).off + 1, none⟩ = some (.int .u64 xs[j].f1) ∧
      w.cell? ⟨(ad.add (j * 4)).block, (ad.add (j * 4)).off + 2, none⟩ = some (.slice B xs[j].f2.length c) ∧ w.cell? ⟨(ad.add (j * 4)).block, (ad.add (j * 4)).off + 3, none⟩ = some (.int .u64 xs[j].f3) ∧ xs[j].f2.length ≤ c ∧ (Kd.int .u8).C w B xs[j].f2.length xs[j].f2 := by
  have hn := h.1
  obtain ⟨ad, B, c, h0, h1, h2, h3, h4, h5, h6⟩ := at_T30 h (j : Int) (by omega) (by omega)
  rw [rdT_getElem hj, Int.toNat_natCast] at *
  exact ⟨ad, B, c, h0, h1, h2, h3, h4, h5, h6⟩
end Go.Proofs.Ythllblcbmpehlaa
