/- The walk of ClipGathers (under way). -/
import Derived.Test.YtmhninlndjcikaaKn
import Derived.RegionTactic
import Derived.BigRegion
import Derived.Deep.RegionWith
import Derived.Deep.Cut
import Derived.Deep.CutRange
import Derived.Deep.DeepCutAuto
import Derived.Deep.LoopGhost
namespace Go.Proofs.Ytmhninlndjcikaa
open Go.RowKit Go.Proofs.YtmhninlndjcikaaW.PrintWords Go.Proofs.YtmhninlndjcikaaW.PrintLast Go.Proofs.YtmhninlndjcikaaW.PrintMore
set_option linter.unusedVariables false
set_option linter.unusedSimpArgs false

theorem bool_at {w : World} {A : Option Addr} {n : Nat} {xs : List Bool} (h : Kd.bool.C w A n xs) (j : Nat) (hj : j < xs.length) : ∃ ad, A = some ad ∧ w.cell? (ad.add j) = some (.bool xs[j]) := by
  have hn := h.1
  obtain ⟨ad, cs, e, _, hK, hc⟩ := Kd.C_get h false (j : Int) (by omega) (by omega)
  have hg : xs.getD ((j : Int)).toNat false = xs[j] := by rw [List.getD_eq_getElem?_getD, Int.toNat_natCast, List.getElem?_eq_getElem hj]; rfl
  rw [hg] at hK
  obtain rfl : cs = [.bool xs[j]] := hK
  have := hc 0 _ rfl
  rw [Int.toNat_natCast] at this
  exact ⟨ad, e, by simpa [Kd.bool, Kd.scalar] using this⟩
/-- What stands at the begin of each round. -/
def GInv (w W wr : World) (g gx : Nat) (i : Nat) (L : List Pc) (sk : Bool) (v vL : Value) : Prop :=
  Bk wr g g (kOf L sk) v ∧ Rb wr g gx (fun b => b ≠ g ∧ some b ≠ v.ownBlock) L sk vL ∧ L.length ≤ i ∧ (allD L).length ≤ 1024 ∧ Below g W wr

/-- The round's own piece, behind its cuts. -/
def PcAt (wr wc : World) (fb lb : Bool) (D : Option Addr) (l1 dd : Nat) (q : List Int) : Prop :=
  Below wr.heap.size wr wc ∧ wc.heap[wr.heap.size]? = some (.cells #[.bool fb, .bool lb, .slice D l1 dd] 31 (0, 0)) ∧ (Kd.int .u8).R 5 wc wr.heap.size (fun b => wr.heap.size < b) (.slice D l1 dd) q ∧ q.length ≤ 80

/-- A slice of the round's own. -/
def DV (wr wc : World) (v : Value) (m : Nat) : Prop := ∃ q, (Kd.int .u8).R 5 wc wr.heap.size (fun b => wr.heap.size < b) v q ∧ q.length ≤ m
def DV2 (wr wc : World) (v : Value) : Prop := ∃ (g2 : Nat) (A1 : Option Addr) (n1 c1 : Nat) (A2 : Option Addr) (n2 c2 : Nat), v = .slice (some ⟨g2, 0, none⟩) 2 2 ∧ wr.heap.size < g2 ∧
  wc.heap[g2]? = some (.cells #[.slice A1 n1 c1, .slice A2 n2 c2] 24 (0, 0)) ∧ DV wr wc (.slice A1 n1 c1) 80 ∧ DV wr wc (.slice A2 n2 c2) 64
theorem DV.keep {wr wa wb : World} {v : Value} {m : Nat} (h : DV wr wa v m) (hk : KeepBut wa wb wr.heap.size none) : DV wr wb v m := by
  obtain ⟨q, h1, h2⟩ := h
  exact ⟨q, Kd.R_keep h1 hk (fun k hk => by omega), h2⟩
theorem DV2.keep {wr wa wb : World} {v : Value} (h : DV2 wr wa v) (hk : KeepBut wa wb wr.heap.size none) : DV2 wr wb v := by
  obtain ⟨g2, A1, n1, c1, A2, n2, c2, h1, h2, h3, h4, h5⟩ := h
  exact ⟨g2, A1, n1, c1, A2, n2, c2, h1, h2, (hk.2 g2 (blk_lt h3) (by omega) (by simp)).trans h3, h4.keep hk, h5.keep hk⟩
theorem PcAt.below {wr wa wb : World} {fb lb : Bool} {D : Option Addr} {l1 dd : Nat} {q : List Int} (h : PcAt wr wa fb lb D l1 dd q) (hb : Below wa.heap.size wa wb) : PcAt wr wb fb lb D l1 dd q :=
  ⟨below_step h.1 hb, blk_below h.2.1 hb, Kd.R_below h.2.2.1 hb, h.2.2.2⟩
theorem DV.fresh {wr wa wb : World} {v : Value} {m : Nat} {q : List Int} (hl : wr.heap.size < wa.heap.size) (h : (Kd.int .u8).R 5 wb wa.heap.size (fun _ => True) v q) (hm : q.length ≤ m) : DV wr wb v m :=
  ⟨q, Kd.R_lower (Kd.R_mono (Kd.R_bound h) (fun k hk => Nat.lt_of_lt_of_le hl hk.2.1)) (Nat.le_of_lt hl), hm⟩
theorem PcAt.put {wr wa : World} {fb lb : Bool} {D : Option Addr} {l1 dd : Nat} {q : List Int} {v : Value} (h : PcAt wr wa fb lb D l1 dd q) (hv : DV wr wa v 80) :
    ∃ D l2 d2 q2, PcAt wr (wa.setCell ⟨wr.heap.size, 2, none⟩ v) fb lb D l2 d2 q2 := by
  obtain ⟨q2, h1, h2⟩ := hv
  obtain ⟨D2, d2, rfl⟩ := Kd.R_slice h1
  exact ⟨D2, q2.length, d2, q2, h.1.setCell (Nat.le_refl _) _, blk_set h.2.1 2 _, Kd.R_far h1 (fun k hk => by show k ≠ wr.heap.size; omega) _, h2⟩

theorem zeros_own {w : World} {zs : List Int} (hz : zs.length = 64) : (Kd.int .u8).R 5 (w.alloc (.cells (row8 zs) 5)) w.heap.size (fun _ => True) (.slice (some ⟨w.heap.size, 0, none⟩) 64 64) zs := by
  refine Kd.R_of_own (xs := zs) ⟨by simp [encs, hz], .inr ⟨w.heap.size, 64, row8 zs, by rw [hz], Nat.le_refl _, blk_new _ _, by omega, by unfold maxLen; omega, by simp [row8, hz], ?_⟩⟩ (fun _ _ => trivial)
  simp [row8, encs]
  exact List.take_of_length_le (by simp)

theorem after_put {wr wc w4 : World} {g gx : Nat} {L : List Pc} {sk fb lb : Bool} {v vL v' : Value} {D : Option Addr} {dd : Nat} {q : List Int} {k' : Bs} (hne : gx ≠ g) (h1 : Bk wr g g (kOf L sk) v)
    (h2 : Rb wr g gx (fun b => b ≠ g ∧ some b ≠ v.ownBlock) L sk vL) (hq : PcAt wr wc fb lb D q.length dd q) (hp : Put' wc w4 g g v k' v') :
    Rb w4 g gx (fun b => b ≠ g ∧ some b ≠ v'.ownBlock) L sk vL ∧ w4.heap[wr.heap.size]? = some (.cells #[.bool fb, .bool lb, .slice D q.length dd] 31 (0, 0)) ∧
      (Kd.int .u8).R 5 w4 g (fun b => b ≠ gx ∧ (b ≠ g ∧ some b ≠ v'.ownBlock) ∧ some b ≠ vL.ownBlock) (.slice D q.length dd) q ∧ (∀ b, w4.heap.size ≤ b → b ≠ g ∧ some b ≠ v'.ownBlock) ∧ Below g wr w4 := by
  have k1 := h1.below hq.1
  have k2 := h2.below hq.1
  have g1 := blk_lt h1.1
  have g2 := blk_lt h2.1
  have hs := hq.1.size
  have hva : ∀ b, wr.heap.size ≤ b → v.ownBlock ≠ some b := fun b hb e => absurd (Kd.R_lt h1.2 _ e) (by omega)
  have hvL : ∀ b, wr.heap.size ≤ b → vL.ownBlock ≠ some b := fun b hb e => absurd (Kd.R_lt h2.2 _ e) (by omega)
  refine ⟨k2.put (kk := k') hp hne (Bk.ne_blk k1 k2.1), ?_, ?_, ?_, ?_⟩
  · rw [hp.2.1.2 wr.heap.size (blk_lt hq.2.1) (by omega) (fun e => hva _ (Nat.le_refl _) e.symm)]
    exact hq.2.1
  · have h3 := Kd.R_mono (Kd.R_bound hq.2.2.1) (ok' := fun b => wr.heap.size < b ∧ b < wc.heap.size) (fun b hb => ⟨hb.1, hb.2.2.1⟩)
    have h4 := hp.keepR h3 (fun k hk => ⟨by omega, hva k (by omega)⟩)
    refine Kd.R_mono (Kd.R_lower h4 (by omega)) (fun b hb => ⟨by omega, ⟨by omega, fun e => ?_⟩, fun e => hvL b (by omega) e.symm⟩)
    rcases hp.2.2.1 with h | h | ⟨b', h, hb'⟩
    · rw [h] at e; cases e
    · rw [h] at e; exact hva b (by omega) e.symm
    · rw [h] at e; injection e with e; omega
  · intro b hb
    have g3 := hp.2.2.2.size
    exact ⟨by omega, fun e => absurd (Kd.R_lt hp.1.2 _ e.symm) (by omega)⟩
  · exact (hq.1.mono (by omega)).trans hp.2.2.2
theorem after_ref {w4 w5 : World} {g gx : Nat} {L L' : List Pc} {sk sk' : Bool} {v' vL vL' vo : Value} {k' : Bs} {out : List Int} (hne : gx ≠ g) (hb : Bk w4 g g k' v') (h2 : Rb w4 g gx (fun b => b ≠ g ∧ some b ≠ v'.ownBlock) L sk vL)
    (hr : RPut w4 w5 g gx (fun b => b ≠ g ∧ some b ≠ v'.ownBlock) vL L' sk' vL') (ho : (Kd.int .u8).R 5 w4 g (fun _ => True) vo out) :
    Bk w5 g g k' v' ∧ (Kd.int .u8).R 5 w5 g (fun _ => True) vo out := by
  refine ⟨hb.rput hr (Ne.symm hne) h2.apart.1 (Bk.ne_blk hb h2.1) h2.apart.2, ?_⟩
  refine Kd.R_mono (Kd.R_step (Kd.R_bound ho) (fun k hk hlt => hr.2.1.2 k hlt ?_ ?_)) (fun _ _ => trivial)
  · rintro rfl
    obtain ⟨q, hq, cells, hc⟩ := hk.2.2.2
    obtain rfl : q = 5 := by simpa [Kd.int, Kd.scalar] using hq
    rw [h2.1] at hc
    simp at hc
  · intro e
    obtain ⟨q, hq, cells, hc⟩ := hk.2.2.2
    obtain rfl : q = 5 := by simpa [Kd.int, Kd.scalar] using hq
    obtain ⟨cells', hc'⟩ := Kd.R_typed h2.2 k e.symm
    rw [hc'] at hc
    simp at hc

set_option maxRecDepth 100000 in
set_option maxHeartbeats 8000000 in
theorem gathers_walk (A : Option Addr) (len c : Nat) (l : List Pc) (A2 : Option Addr) (len2 cc2 : Nat) (lg : List Bool) (w : World) (hr : kP.C w A len l) (hc : len ≤ c) (hr2 : Kd.bool.C w A2 len2 lg) (hc2 : len2 ≤ cc2) :
    Calls Try.prog 5 #[.slice A len c, .slice A2 len2 cc2] w fun e w' => e = .returned (.bool true) ∧ Below w.heap.size w w' := by
  have HR := Aside0.mk hr
  have HR2 := Aside0.mk hr2
  have hm0 : ∀ w : World, (Instr.makeSlice 24 (.int .i64 64) (.int .i64 64)).run Try.prog w = .ok (.slice (some ⟨w.heap.size, 0, none⟩) 64 64) (w.alloc (.cells (row8 (List.replicate 64 0)) 5)) := fun w => make_u8 .i64 .i64 64 (by omega) w
  obtain ⟨zs, hzs⟩ : ∃ zs : List Int, List.replicate 64 0 = zs := ⟨_, rfl⟩
  rw [hzs] at hm0
  have hz64 : zs.length = 64 := by rw [← hzs]; simp
  have HZL := Aside0.mk hz64
  have HMK := Aside0.mk hm0
  clear hr hr2 hzs hz64 hm0
  go_enter Try.func5, Try.ntmps5
  go_wp2_with fail
  refine (awake_any _).mono ?_
  rintro e w1 ⟨rfl, hb1⟩
  have B4 := Aside0.mk (below_alloc (below_alloc hb1 (.cells #[.slice none 0 0, .bool false, .bool false] 37)) (.cells #[.slice none 0 0, .bool false] 45))
  have K4 : Aside0 (Bk ((w1.alloc (.cells #[.slice none 0 0, .bool false, .bool false] 37)).alloc (.cells #[.slice none 0 0, .bool false] 45)) w1.heap.size w1.heap.size (kOf [] false) (.slice none 0 0)) := ⟨⟨blk_alloc (blk_new _ _) _, Kd.R_nil _ _ _ _ _⟩⟩
  have X4 : Aside0 (Rb ((w1.alloc (.cells #[.slice none 0 0, .bool false, .bool false] 37)).alloc (.cells #[.slice none 0 0, .bool false] 45)) w1.heap.size (w1.heap.size + 1) (fun b => b ≠ w1.heap.size ∧ some b ≠ (Value.slice none 0 0).ownBlock) [] false (.slice none 0 0)) := ⟨⟨by simpa [Rk] using blk_new (w1.alloc (.cells #[.slice none 0 0, .bool false, .bool false] 37)) (.cells #[.slice none 0 0, .bool false] 45), Kd.R_nil _ _ _ _ _⟩⟩
  have hgw : w.heap.size ≤ w1.heap.size := hb1.size
  clear hb1
  go_wp2_with fail
  obtain ⟨gx, hgx⟩ : ∃ gx, w1.heap.size + 1 = gx := ⟨_, rfl⟩
  rw [hgx] at X4 ⊢
  generalize (w1.alloc (.cells #[.slice none 0 0, .bool false, .bool false] 37)).alloc (.cells #[.slice none 0 0, .bool false] 45) = W at *
  generalize w1.heap.size = g at *
  have HGX := Aside0.mk hgx
  have HGW := Aside0.mk hgw
  clear hgx hgw
  go_loopg [21] len (fun k v21 wr => ∃ (i : Nat) (L : List Pc) (sk : Bool) (v vL : Value), i ≤ len ∧ k = len - i ∧ v21 = .int .i64 i ∧ Aside0 (GInv w W wr g gx i L sk v vL))
  case atStart => exact ⟨0, [], false, _, _, by omega, rfl, rfl, ⟨K4.out, X4.out, by simp, by simp [allD], Below.refl _ _⟩⟩
  case round =>
    clear K4 X4
    obtain ⟨i, L, sk, v, vL, hi, rfl, rfl, H⟩ := hrel
    have hmx : len ≤ 9223372036854775807 := HR.out.2.1
    have HB := Aside0.mk (B4.out.trans (H.out.2.2.2.2.mono HGW.out))
    by_cases hlt : i < len
    · have hll : l.length = len := HR.out.1
      obtain ⟨ad, B, cB, hA, x0, x1, x2, hxc, hxd⟩ := piece_at (Kd.C_below HR.out HB.out) i (by omega)
      generalize l[i]'(by omega) = x at *
      obtain ⟨fb, lb, q⟩ := x
      simp only at x0 x1 x2 hxc hxd
      generalize hdl : q.length = dl at *
      have HXD := Aside0.mk hxd
      subst hA
      have d1 : decide (i < len) = true := decide_eq_true hlt
      clear hxd
      by_cases h40 : 40 ≤ i
      · have h40' : (40 : Int) ≤ i := by omega
        have d2 : decide ((40 : Int) ≤ i) = true := decide_eq_true h40'
        clear hll
        go_wp2_with fail
        go_ret
        exact ⟨rfl, below_alloc HB.out _⟩
      · have h40' : ¬ (40 : Int) ≤ i := by omega
        have d2 : decide ((40 : Int) ≤ i) = false := decide_eq_false h40'
        clear h40 hll
        go_wp2_with fail
        refine (cut_any B dl cB q 80 _ (Kd.C_alloc HXD.out _) hxc (by omega)).mono ?_
        rintro e w3 ⟨vC, rfl, hoC, hb3⟩
        obtain ⟨q1, hq1⟩ : ∃ q1, q.take (80 : Int).toNat = q1 := ⟨_, rfl⟩
        have hq1l : q1.length ≤ 80 := by rw [← hq1, List.length_take]; exact Nat.min_le_left _ _
        rw [hq1] at hoC
        obtain ⟨D1, dd, hvC⟩ := Kd.R_slice hoC
        obtain ⟨l1, hl1⟩ : ∃ l1, q1.length = l1 := ⟨_, rfl⟩
        rw [hl1] at hvC
        subst hvC
        have hgl : g < wr.heap.size ∧ gx < wr.heap.size := ⟨blk_lt H.out.1.1, blk_lt H.out.2.1.1⟩
        have hb13 := below_step (below_alloc (Below.refl wr.heap.size wr) (.cells #[.bool fb, .bool lb, .slice B dl cB] 31)) hb3
        have hp := blk_below (blk_new wr (.cells #[.bool fb, .bool lb, .slice B dl cB] 31)) hb3
        have c2 := blk_cell hp 2
        have f2 := blk_frozen hp 2
        have HPC : Aside0 (PcAt wr (w3.setCell ⟨wr.heap.size, 2, none⟩ (.slice D1 l1 dd)) fb lb D1 l1 dd q1) :=
          ⟨⟨hb13.setCell (Nat.le_refl _) _, blk_set hp 2 _, Kd.R_far (Kd.R_lower (Kd.R_mono (Kd.R_bound hoC) (ok' := fun b => wr.heap.size < b) (fun b hb => by have := hb.2.1; simp at this; omega)) (by simp)) (fun k hk => by show k ≠ wr.heap.size; omega) _, hq1l⟩⟩
        have HGL := Aside0.mk hgl
        have HL1 := Aside0.mk hl1
        clear hoC hb3 hb13 hgl hl1 hq1 hdl hp hq1l
        go_upto_region 10 with fail
        generalize w3.setCell ⟨wr.heap.size, 2, none⟩ (.slice D1 l1 dd) = W4 at *
        clear c2 f2
        go_cut [41] (fun v41 wx => (v41 = .bool true ∨ v41 = .bool false) ∧ wx = W4)
        case first =>
          by_cases h2 : i < lg.length
          · obtain ⟨ad2, hA2, hcell⟩ := bool_at (Kd.C_below HR2.out (below_step HB.out HPC.out.1)) i h2
            have hln : lg.length = len2 := HR2.out.1
            generalize lg[i] = bb at *
            subst hA2
            have d3 : decide (i < len2) = true := decide_eq_true (by omega)
            have d3' : (i : Int) < len2 := by omega
            have d3'' : i < len2 := by omega
            clear hln h2
            go_wp2_with fail
            go_meet
            exact ⟨by cases bb <;> simp, rfl⟩
          · have hln : lg.length = len2 := HR2.out.1
            have d3 : decide (i < len2) = false := decide_eq_false (by omega)
            have d3' : decide ((i : Int) < len2) = false := decide_eq_false (by omega)
            have d3'' : ¬ (i : Int) < len2 := by omega
            clear hln h2
            go_wp2_with fail
            go_meet
            exact ⟨.inr rfl, rfl⟩
        case rest =>
          obtain ⟨h41, rfl⟩ := hcut
          go_upto_if 41 with fail
          go_cut [] (fun wx => ∃ D l2 dd2 q2, Aside0 (PcAt wr wx fb lb D l2 dd2 q2))
          case first =>
            rcases h41 with rfl | rfl
            · go_upto_region 11 with fail
              refine region_all (w := wc)
                (fun i wx v => if i = 0 then v = .pointer (some ⟨wr.heap.size, 2, none⟩) else if i = 1 then DV wr wx v 80 else if i = 2 then DV wr wx v 64 else if i = 3 then DV2 wr wx v else if i = 4 then DV wr wx v 144 else if i = 5 then DV wr wx v 80 else if i = 6 then v = .pointer (some ⟨wr.heap.size, 2, none⟩) else True)
                (fun _ => none)
                (fun wx => ∃ D l2 d2 q2, PcAt wr wx fb lb D l2 d2 q2)
                (fun wa wb => KeepBut wa wb wr.heap.size none)
                [(0, some 42), (1, some 43), (2, some 44), (3, some 45), (4, some 46), (5, some 47), (6, some 48), (7, none)]
                (by kernel_rfl) (by kernel_rfl) (by kernel_rfl) (fun _ => KeepBut.refl _ _ _) ?stab ?guard ?c0 ?op ?fin
              case stab =>
                intro i wa wb v hi hs hv
                rcases i with _ | _ | _ | _ | _ | _ | _ | i
                · exact hv
                · exact DV.keep hv hs
                · exact DV.keep hv hs
                · exact DV2.keep hv hs
                · exact DV.keep hv hs
                · exact DV.keep hv hs
                · exact hv
                · simp
              case guard =>
                intro i o j b ho hg
                rcases i with _ | _ | _ | _ | _ | _ | _ | _ | i
                iterate 8 · obtain rfl := Option.some.inj ho; cases hg
                · simp at ho
              case c0 => exact ⟨_, _, _, _, HPC.out.below (below_drew1 (Below.refl _ _))⟩
              case op =>
                intro i o ho vs wx hC hV
                have hC' := hC
                obtain ⟨D, l2, d2, q2, hP⟩ := hC
                have hsz : wr.heap.size < wx.heap.size := blk_lt hP.2.1
                rcases i with _ | _ | _ | _ | _ | _ | _ | _ | i
                · obtain rfl := Option.some.inj ho
                  rw [if_pos (by kernel_rfl)]
                  generalize hρ : rho _ _ _ vs = ρ
                  have e8 : ρ (.tmp 8) = .pointer (some ⟨wr.heap.size, 0, none⟩) := by rw [← hρ]; kernel_rfl
                  clear hρ hV
                  refine runs_val (v := .pointer (some ⟨wr.heap.size, 2, none⟩)) (w' := wx) ?_ ⟨hC', KeepBut.refl _ _ _, rfl⟩
                  clear hC' hP
                  go_simp
                · obtain rfl := Option.some.inj ho
                  rw [if_pos (by kernel_rfl)]
                  have hv : vs 0 = .pointer (some ⟨wr.heap.size, 2, none⟩) := hV 0 (by kernel_rfl)
                  generalize hρ : rho _ _ _ vs = ρ
                  have e42 : ρ (.tmp 42) = vs 0 := by rw [← hρ]; kernel_rfl
                  rw [hv] at e42
                  have c2 := blk_cell hP.2.1 2
                  clear hρ hV
                  refine runs_val (v := .slice D l2 d2) (w' := wx) ?_ ⟨hC', KeepBut.refl _ _ _, ⟨q2, hP.2.2.1, hP.2.2.2⟩⟩
                  clear hC' hP
                  go_simp
                · obtain rfl := Option.some.inj ho
                  rw [if_pos (by kernel_rfl)]
                  generalize hρ : rho _ _ _ vs = ρ
                  have econ : ∀ v : Value, ρ (.const v) = v := fun v => by rw [← hρ]; rfl
                  clear hρ hV
                  have hm := HMK.out wx
                  refine runs_val (v := .slice (some ⟨wx.heap.size, 0, none⟩) 64 64) (w' := wx.alloc (.cells (row8 zs) 5)) ?_ ⟨⟨_, _, _, _, hP.below (below_alloc (Below.refl _ _) _)⟩, KeepBut.of_below (below_alloc (Below.refl _ _) _) _ _, ?_⟩
                  · clear hC' hP
                    go_simp
                  · exact DV.fresh hsz (zeros_own HZL.out) (by rw [HZL.out]; exact Nat.le_refl _)
                · obtain rfl := Option.some.inj ho
                  rw [if_pos (by kernel_rfl)]
                  have h1 : DV wr wx (vs 1) 80 := hV 1 (by kernel_rfl)
                  have h2 : DV wr wx (vs 2) 64 := hV 2 (by kernel_rfl)
                  generalize hρ : rho _ _ _ vs = ρ
                  have e43 : ρ (.tmp 43) = vs 1 := by rw [← hρ]; kernel_rfl
                  have e44 : ρ (.tmp 44) = vs 2 := by rw [← hρ]; kernel_rfl
                  clear hρ hV
                  generalize vs 1 = v1 at *
                  generalize vs 2 = v2 at *
                  obtain ⟨q1, a1, a2⟩ := id h1
                  obtain ⟨b1, b2, b3⟩ := id h2
                  obtain ⟨D5, d5, rfl⟩ := Kd.R_slice a1
                  obtain ⟨D6, d6, rfl⟩ := Kd.R_slice b2
                  have hbl : KeepBut wx (wx.alloc (.cells #[.slice D5 q1.length d5, .slice D6 b1.length d6] 24)) wr.heap.size none := KeepBut.of_below (below_alloc (Below.refl _ _) _) _ _
                  refine runs_val (v := .slice (some ⟨wx.heap.size, 0, none⟩) 2 2) (w' := wx.alloc (.cells #[.slice D5 q1.length d5, .slice D6 b1.length d6] 24)) ?_ ⟨⟨_, _, _, _, hP.below (below_alloc (Below.refl _ _) _)⟩, hbl, ⟨_, _, _, _, _, _, _, rfl, hsz, blk_new _ _, h1.keep hbl, h2.keep hbl⟩⟩
                  clear h1 h2 a1 a2 b2 b3 hC' hP hbl
                  go_simp
                · obtain rfl := Option.some.inj ho
                  rw [if_pos (by kernel_rfl)]
                  have h1 : DV2 wr wx (vs 3) := hV 3 (by kernel_rfl)
                  generalize hρ : rho _ _ _ vs = ρ
                  have e45 : ρ (.tmp 45) = vs 3 := by rw [← hρ]; kernel_rfl
                  have ef16 : ρ (.func 16) = .func (.func 16) #[] #[] := by rw [← hρ]; rfl
                  clear hρ hV
                  generalize vs 3 = v3 at *
                  obtain ⟨g2, A1, n1, c1, A3, n2, c2, rfl, a2, a3, ⟨q1, a4, a5⟩, ⟨q3, a6, a7⟩⟩ := h1
                  obtain ⟨r1, r2, r3⟩ := R_C a4
                  obtain ⟨s1, s2, s3⟩ := R_C a6
                  have htwo := C_of_two (e := 5) a3 r3 r2 s3 s2
                  have hlen : [q1, q3].flatten.length ≤ 144 := by simp; omega
                  refine runs_call (f := 16) (args := #[.slice (some ⟨g2, 0, none⟩) 2 2]) (w' := wx) ?_ ?_
                  · clear htwo hlen r1 r2 r3 s1 s2 s3 a2 a3 a4 a5 a6 a7 hC' hP
                    go_simp
                  · refine (join_any _ 2 2 [q1, q3] wx htwo (Nat.le_refl 2) (by omega)).mono ?_
                    rintro e w5 ⟨vj, rfl, hoj, hbj⟩
                    exact ⟨_, rfl, ⟨_, _, _, _, hP.below hbj⟩, KeepBut.of_below hbj _ _, DV.fresh hsz hoj hlen⟩
                · obtain rfl := Option.some.inj ho
                  rw [if_pos (by kernel_rfl)]
                  have h1 : DV wr wx (vs 4) 144 := hV 4 (by kernel_rfl)
                  generalize hρ : rho _ _ _ vs = ρ
                  have e46 : ρ (.tmp 46) = vs 4 := by rw [← hρ]; kernel_rfl
                  have ef14 : ρ (.func 14) = .func (.func 14) #[] #[] := by rw [← hρ]; rfl
                  have econ : ∀ v : Value, ρ (.const v) = v := fun v => by rw [← hρ]; rfl
                  clear hρ hV
                  generalize vs 4 = v4 at *
                  obtain ⟨q1, a1, a2⟩ := h1
                  obtain ⟨D5, d5, rfl⟩ := Kd.R_slice a1
                  obtain ⟨r1, r2, r3⟩ := R_C a1
                  refine runs_call (f := 14) (args := #[.slice D5 q1.length d5, .int .i64 64]) (w' := wx) ?_ ?_
                  · clear r1 r2 r3 a1 a2 hC' hP
                    go_simp
                  · refine (cut_any _ _ _ q1 64 wx r3 r2 (by omega)).mono ?_
                    rintro e w5 ⟨vj, rfl, hoj, hbj⟩
                    exact ⟨_, rfl, ⟨_, _, _, _, hP.below hbj⟩, KeepBut.of_below hbj _ _, DV.fresh hsz hoj (by rw [List.length_take]; have : (64 : Int).toNat = 64 := rfl; omega)⟩
                · obtain rfl := Option.some.inj ho
                  rw [if_pos (by kernel_rfl)]
                  generalize hρ : rho _ _ _ vs = ρ
                  have e8 : ρ (.tmp 8) = .pointer (some ⟨wr.heap.size, 0, none⟩) := by rw [← hρ]; kernel_rfl
                  clear hρ hV
                  refine runs_val (v := .pointer (some ⟨wr.heap.size, 2, none⟩)) (w' := wx) ?_ ⟨hC', KeepBut.refl _ _ _, rfl⟩
                  clear hC' hP
                  go_simp
                · obtain rfl := Option.some.inj ho
                  rw [if_pos (by kernel_rfl)]
                  have hv : vs 6 = .pointer (some ⟨wr.heap.size, 2, none⟩) := hV 6 (by kernel_rfl)
                  have hd : DV wr wx (vs 5) 80 := hV 5 (by kernel_rfl)
                  generalize hρ : rho _ _ _ vs = ρ
                  have e48 : ρ (.tmp 48) = vs 6 := by rw [← hρ]; kernel_rfl
                  have e47 : ρ (.tmp 47) = vs 5 := by rw [← hρ]; kernel_rfl
                  rw [hv] at e48
                  clear hρ hV hv
                  generalize vs 5 = v5 at *
                  have c2 := blk_cell hP.2.1 2
                  have f2 := blk_frozen hP.2.1 2
                  obtain ⟨q5, hd1, hd2⟩ := id hd
                  obtain ⟨D5, d5, rfl⟩ := Kd.R_slice hd1
                  refine runs_skip (w' := wx.setCell ⟨wr.heap.size, 2, none⟩ (.slice D5 q5.length d5)) ?_ ⟨hP.put hd, ⟨by simp, fun k hk hg _ => Below.heap_setCell wx _ _ k hg⟩, trivial⟩
                  clear hd hd1 hd2 hC' hP
                  go_simp
                · simp at ho
              case fin =>
                intro vs w9 hC hV
                clear hV
                simp only [putAll]
                generalize vs 0 = o0
                generalize vs 1 = o1
                generalize vs 2 = o2
                generalize vs 3 = o3
                generalize vs 4 = o4
                generalize vs 5 = o5
                generalize vs 6 = o6
                generalize vs 7 = o7
                clear vs
                simp only [Act.put, List.setIfInBounds_toArray, List.set_cons_zero, List.set_cons_succ]
                obtain ⟨D, l2, d2, q2, hP⟩ := hC
                have HP9 := Aside0.mk hP
                clear hP
                go_wp2_with fail
                go_meet
                exact ⟨_, _, _, _, HP9⟩
            · go_wp2_with fail
              go_meet
              exact ⟨_, _, _, _, HPC⟩
          case rest =>
            obtain ⟨D, l2, dd2, q2, HQ⟩ := hcut
            obtain ⟨G1, G2, G3, G4, G5⟩ := H.out
            have hne : gx ≠ g := by have := HGX.out; omega
            obtain ⟨r1, r2, r3⟩ := R_C HQ.out.2.2.1
            obtain rfl := r1
            have key := put_any g g (kOf L sk) v ⟨fb, lb, q2⟩ D dd2 wc (G1.below HQ.out.1) (Nat.le_refl _) G4 r3 r2
            have hgg : g ≤ gx := by have := HGX.out; omega
            have hL1000 : L.length ≤ 1000 := by omega
            have hal := puts_alike L sk ⟨fb, lb, q2⟩
            have hpl := putN_len (k := kOf L sk) (x := ⟨fb, lb, q2⟩) G4
            have hrl := refL_length L sk ⟨fb, lb, q2⟩
            have hR := fun (v' : Value) (w' : World) (h1 : Rb w' g gx (fun b => b ≠ g ∧ some b ≠ v'.ownBlock) L sk vL) h2 h3 => refput_any g gx (fun b => b ≠ g ∧ some b ≠ v'.ownBlock) L sk vL ⟨fb, lb, q2⟩ D dd2 w' h1 hgg G4 h2 h3 hL1000
            clear hgg hL1000
            generalize refL L sk ⟨fb, lb, q2⟩ = L' at *
            generalize putN (kOf L sk) ⟨fb, lb, q2⟩ = pn at *
            obtain ⟨k', out, pb, pe⟩ := pn
            simp only at hal hpl key hR
            generalize k'.sk = sk' at *
            subst hal
            have HA := Aside0.mk (fun (w4 : World) (k' : Bs) (v' : Value) (hp : Put' wc w4 g g v k' v') => after_put hne G1 G2 HQ.out hp)
            have HR' := Aside0.mk hR
            have HKEY := Aside0.mk key
            have HGB := Aside0.mk (⟨G5, hpl, Nat.le_trans hrl (Nat.succ_le_succ G3), hne⟩ : Below g W wr ∧ (kOf L' sk').p.length ≤ 1024 ∧ L'.length ≤ i + 1 ∧ gx ≠ g)
            have c0 := blk_cell HQ.out.2.1 0
            have c1 := blk_cell HQ.out.2.1 1
            have c2 := blk_cell HQ.out.2.1 2
            clear key hR r2 r3 G1 G2 G3 G4 G5 hpl hrl hne H HPC
            go_wp2_with fail
            refine HKEY.out.mono ?_
            rintro e w4 ⟨vo, v', rfl, ho, hP⟩
            obtain ⟨O1, oc, hvo⟩ := Kd.R_slice ho
            obtain ⟨ol, hol⟩ : ∃ ol, out.length = ol := ⟨_, rfl⟩
            rw [hol] at hvo
            subst hvo
            obtain ⟨a1, a2, a3, a4, a5⟩ := HA.out _ _ _ hP
            have HRR := Aside0.mk (HR'.out v' w4 a1 a3 a4)
            have HAR := Aside0.mk (fun (w5 : World) (vL' : Value) hr => after_ref (w5 := w5) (vL' := vL') (L' := L') (sk' := sk') HGB.out.2.2.2 hP.1 a1 hr ho)
            have HB4 := Aside0.mk (⟨HB.out.trans (a5.mono HGW.out), a5⟩ : Below w.heap.size w w4 ∧ Below g wr w4)
            have HOL := Aside0.mk hol
            have c0 := blk_cell a2 0
            have c1 := blk_cell a2 1
            have c2 := blk_cell a2 2
            clear ho hP a1 a2 a3 a4 a5 HA HR' HKEY hol HQ
            go_wp2_with fail
            refine HRR.out.mono ?_
            rintro e w5 ⟨vo2, vL', rfl, ho2, hP5⟩
            obtain ⟨b1, b2⟩ := HAR.out _ _ hP5
            obtain ⟨O2, oc2, hvo2⟩ := Kd.R_slice ho2
            rw [HOL.out] at hvo2
            subst hvo2
            obtain ⟨QL, lc, rfl⟩ := Kd.R_slice hP5.1.2
            obtain ⟨s1, s2, s3⟩ := R_C b2
            obtain ⟨t1, t2, t3⟩ := R_C ho2
            obtain ⟨l1', l2', l3'⟩ := R_C hP5.1.2
            have X1 := Aside0.mk b1
            have X2 := Aside0.mk hP5.1
            have X3 := Aside0.mk (⟨s2, s3, t2, t3⟩ : ol ≤ oc ∧ (Kd.int .u8).C w5 O1 ol out ∧ ol ≤ oc2 ∧ (Kd.int .u8).C w5 O2 ol out)
            have X4 := Aside0.mk (⟨l2', l3'⟩ : L'.length ≤ lc ∧ kP.C w5 QL L'.length L')
            have HB5 := Aside0.mk (⟨HB4.out.1.trans (hP5.2.2.mono (by have := HGW.out; have := HGX.out; omega)), HB4.out.2.trans hP5.2.2⟩ : Below w.heap.size w w5 ∧ Below g wr w5)
            obtain ⟨pl, hpl⟩ : ∃ pl, (allD L').length = pl := ⟨_, rfl⟩
            obtain ⟨ob, hob⟩ : ∃ ob, (!L'.isEmpty) = ob := ⟨_, rfl⟩
            have hob2 : decide ((0 : Int) < (L'.length : Int)) = ob := by rw [← hob]; cases L' <;> simp
            obtain ⟨ln, hln⟩ : ∃ ln, L'.length = ln := ⟨_, rfl⟩
            rw [hln] at hob2
            have HPL := Aside0.mk hpl
            have HOB := Aside0.mk hob
            have HOB2 := Aside0.mk hob2
            have HLN := Aside0.mk hln
            have d0 := blk_cell X2.out.1 0
            rw [hln] at d0
            clear ho2 hP5 b1 b2 s1 s2 s3 t1 t2 t3 l1' l2' l3' hpl hob hob2 hln HRR HAR HB4 c0 c1 c2
            go_wp2_with fail
            refine region_grown (W := w5)
              [fun (w : World) (v : Value) => v = .int .i64 pe,
   fun (w : World) (v : Value) => v = .int .i64 pe,
   fun (w : World) (v : Value) => v = .bool false,
   fun (w : World) (v : Value) => v = .bool false,
   fun (w : World) (v : Value) => v = .bool pb,
   fun (w : World) (v : Value) => v = .bool pb,
   fun (w : World) (v : Value) => v = .bool false,
   fun (w : World) (v : Value) => v = .bool false,
   fun (w : World) (v : Value) => v = .bool false,
   fun (w : World) (v : Value) => v = .slice O1 ol oc,
   fun (w : World) (v : Value) => v = .slice O2 ol oc2,
   fun (w : World) (v : Value) => v = .bool true,
   fun (w : World) (v : Value) => v = .bool false,
   fun (w : World) (v : Value) => v = .bool false,
   fun (w : World) (v : Value) => v = .bool false,
   fun (w : World) (v : Value) => v = .int .i64 pl,
   fun (w : World) (v : Value) => v = .pointer (some ⟨gx, 0, none⟩),
   fun (w : World) (v : Value) => ∃ A, v = .slice A pl pl ∨ ∃ c, v = .slice A pl c,
   fun (w : World) (v : Value) => v = .int .i64 pl,
   fun (w : World) (v : Value) => v = .bool false,
   fun (w : World) (v : Value) => v = .bool false,
   fun (w : World) (v : Value) => v = .bool false,
   fun (w : World) (v : Value) => v = .bool ob,
   fun (w : World) (v : Value) => v = .pointer (some ⟨gx, 0, none⟩),
   fun (w : World) (v : Value) => v = .pointer (some ⟨gx, 0, none⟩),
   fun (w : World) (v : Value) => v = .pointer (some ⟨gx, 0, none⟩),
   fun (w : World) (v : Value) => v = .slice QL ln lc,
   fun (w : World) (v : Value) => v = .int .i64 ln,
   fun (w : World) (v : Value) => v = .bool ob,
   fun (w : World) (v : Value) => v = .bool false,
   fun (w : World) (v : Value) => v = .bool false]
              (fun j => if j = 3 then some false else if j = 8 then some false else if j = 14 then some false else if j = 21 then some false else none)
              [(0, some 68), (1, some 69), (2, some 70), (3, some 71), (4, some 72), (5, some 73), (6, some 74), (7, some 75), (8, some 76), (9, some 77), (10, some 78), (11, some 79), (12, some 80), (13, some 81), (14, some 82), (15, some 83), (16, some 84), (17, some 85), (18, some 86), (19, some 87), (20, some 88), (21, some 89), (22, some 90), (23, some 91), (24, some 92), (25, some 93), (26, some 94), (27, some 95), (28, some 96), (29, some 97), (30, some 98)]
              [3, 8, 14, 21]
              (by kernel_rfl) (by kernel_rfl) (by kernel_rfl) (by kernel_rfl) ?r14_1g ?r14_1s ⟨?r14_1o0, ?r14_1o1, ?r14_1o2, ?r14_1o3, ?r14_1o4, ?r14_1o5, ?r14_1o6, ?r14_1o7, ?r14_1o8, ?r14_1o9, ?r14_1o10, ?r14_1o11, ?r14_1o12, ?r14_1o13, ?r14_1o14, ?r14_1o15, ?r14_1o16, ?r14_1o17, ?r14_1o18, ?r14_1o19, ?r14_1o20, ?r14_1o21, ?r14_1o22, ?r14_1o23, ?r14_1o24, ?r14_1o25, ?r14_1o26, ?r14_1o27, ?r14_1o28, ?r14_1o29, ?r14_1o30, trivial⟩ ?r14_1e
            case r14_1g =>
              intro j hj w v hv
              simp only [List.mem_cons, List.not_mem_nil, or_false] at hj
              rcases hj with rfl | rfl | rfl | rfl
              · have hv' : v = .bool false := hv; rw [hv']; rfl
              · have hv' : v = .bool false := hv; rw [hv']; rfl
              · have hv' : v = .bool false := hv; rw [hv']; rfl
              · have hv' : v = .bool false := hv; rw [hv']; rfl
            case r14_1s =>
              refine ⟨(fun w w' v hb h => h), (fun w w' v hb h => h), (fun w w' v hb h => h), (fun w w' v hb h => h), (fun w w' v hb h => h), (fun w w' v hb h => h), (fun w w' v hb h => h), (fun w w' v hb h => h), (fun w w' v hb h => h), (fun w w' v hb h => h), (fun w w' v hb h => h), (fun w w' v hb h => h), (fun w w' v hb h => h), (fun w w' v hb h => h), (fun w w' v hb h => h), (fun w w' v hb h => h), (fun w w' v hb h => h), (fun w w' v hb h => h), (fun w w' v hb h => h), (fun w w' v hb h => h), (fun w w' v hb h => h), (fun w w' v hb h => h), (fun w w' v hb h => h), (fun w w' v hb h => h), (fun w w' v hb h => h), (fun w w' v hb h => h), (fun w w' v hb h => h), (fun w w' v hb h => h), (fun w w' v hb h => h), (fun w w' v hb h => h), (fun w w' v hb h => h), trivial⟩
            case r14_1o0 =>
              intro vs w hb hV
              rw [if_pos (by kernel_rfl)]
              generalize hρ : rho _ _ _ vs = ρ
              have e11 : ρ (.tmp 11) = .int .i64 pe := by rw [← hρ]; kernel_rfl
              clear hρ hV
              refine runs_val (v := .int .i64 pe) (w' := w) ?_ ⟨Below.refl _ _, rfl⟩
              go_simp <;> (first | exact IntWalk.u64_in _ (by omega) | exact IntWalk.u32_in _ (by omega) | exact IntWalk.u16_in _ (by omega) | exact IntWalk.u8_in _ (by omega) | exact IntWalk.i64_in _ (by omega) | skip)
            case r14_1o1 =>
              intro vs w hb hV
              rw [if_pos (by kernel_rfl)]
              generalize hρ : rho _ _ _ vs = ρ
              have e14 : ρ (.tmp 14) = .int .i64 pe := by rw [← hρ]; kernel_rfl
              clear hρ hV
              refine runs_val (v := .int .i64 pe) (w' := w) ?_ ⟨Below.refl _ _, rfl⟩
              go_simp <;> (first | exact IntWalk.u64_in _ (by omega) | exact IntWalk.u32_in _ (by omega) | exact IntWalk.u16_in _ (by omega) | exact IntWalk.u8_in _ (by omega) | exact IntWalk.i64_in _ (by omega) | skip)
            case r14_1o2 =>
              intro vs w hb hV
              rw [if_pos (by kernel_rfl)]
              generalize hρ : rho _ _ _ vs = ρ
              have d68 : (vs 0) = .int .i64 pe := hV 0 (by kernel_rfl)
              have e68 : ρ (.tmp 68) = vs 0 := by rw [← hρ]; kernel_rfl
              rw [d68] at e68; clear d68
              have d69 : (vs 1) = .int .i64 pe := hV 1 (by kernel_rfl)
              have e69 : ρ (.tmp 69) = vs 1 := by rw [← hρ]; kernel_rfl
              rw [d69] at e69; clear d69
              clear hρ hV
              refine runs_val (v := .bool false) (w' := w) ?_ ⟨Below.refl _ _, rfl⟩
              go_simp <;> (first | exact IntWalk.u64_in _ (by omega) | exact IntWalk.u32_in _ (by omega) | exact IntWalk.u16_in _ (by omega) | exact IntWalk.u8_in _ (by omega) | exact IntWalk.i64_in _ (by omega) | skip)
            case r14_1o3 =>
              intro vs w hb hV
              rw [if_pos (by kernel_rfl)]
              generalize hρ : rho _ _ _ vs = ρ
              have d70 : (vs 2) = .bool false := hV 2 (by kernel_rfl)
              have e70 : ρ (.tmp 70) = vs 2 := by rw [← hρ]; kernel_rfl
              clear hρ hV
              refine runs_val (v := vs 2) (w' := w) ?_ ⟨Below.refl _ _, d70⟩
              go_simp
            case r14_1o4 =>
              intro vs w hb hV
              rw [if_pos (by kernel_rfl)]
              generalize hρ : rho _ _ _ vs = ρ
              have e10 : ρ (.tmp 10) = .bool pb := by rw [← hρ]; kernel_rfl
              clear hρ hV
              refine runs_val (v := .bool pb) (w' := w) ?_ ⟨Below.refl _ _, rfl⟩
              go_simp <;> (first | exact IntWalk.u64_in _ (by omega) | exact IntWalk.u32_in _ (by omega) | exact IntWalk.u16_in _ (by omega) | exact IntWalk.u8_in _ (by omega) | exact IntWalk.i64_in _ (by omega) | skip)
            case r14_1o5 =>
              intro vs w hb hV
              rw [if_pos (by kernel_rfl)]
              generalize hρ : rho _ _ _ vs = ρ
              have e13 : ρ (.tmp 13) = .bool pb := by rw [← hρ]; kernel_rfl
              clear hρ hV
              refine runs_val (v := .bool pb) (w' := w) ?_ ⟨Below.refl _ _, rfl⟩
              go_simp <;> (first | exact IntWalk.u64_in _ (by omega) | exact IntWalk.u32_in _ (by omega) | exact IntWalk.u16_in _ (by omega) | exact IntWalk.u8_in _ (by omega) | exact IntWalk.i64_in _ (by omega) | skip)
            case r14_1o6 =>
              intro vs w hb hV
              rw [if_pos (by kernel_rfl)]
              generalize hρ : rho _ _ _ vs = ρ
              have d72 : (vs 4) = .bool pb := hV 4 (by kernel_rfl)
              have e72 : ρ (.tmp 72) = vs 4 := by rw [← hρ]; kernel_rfl
              rw [d72] at e72; clear d72
              have d73 : (vs 5) = .bool pb := hV 5 (by kernel_rfl)
              have e73 : ρ (.tmp 73) = vs 5 := by rw [← hρ]; kernel_rfl
              rw [d73] at e73; clear d73
              clear hρ hV
              refine runs_val (v := .bool false) (w' := w) ?_ ⟨Below.refl _ _, rfl⟩
              go_simp <;> (first | exact IntWalk.u64_in _ (by omega) | exact IntWalk.u32_in _ (by omega) | exact IntWalk.u16_in _ (by omega) | exact IntWalk.u8_in _ (by omega) | exact IntWalk.i64_in _ (by omega) | skip)
            case r14_1o7 =>
              intro vs w hb hV
              rw [if_pos (by kernel_rfl)]
              generalize hρ : rho _ _ _ vs = ρ
              have d71 : (vs 3) = .bool false := hV 3 (by kernel_rfl)
              have e71 : ρ (.tmp 71) = vs 3 := by rw [← hρ]; kernel_rfl
              rw [d71] at e71; clear d71
              have d74 : (vs 6) = .bool false := hV 6 (by kernel_rfl)
              have e74 : ρ (.tmp 74) = vs 6 := by rw [← hρ]; kernel_rfl
              rw [d74] at e74; clear d74
              have econ : ∀ v : Value, ρ (.const v) = v := fun v => by rw [← hρ]; rfl
              clear hρ hV
              refine runs_val (v := .bool false) (w' := w) ?_ ⟨Below.refl _ _, rfl⟩
              go_simp <;> (first | exact IntWalk.u64_in _ (by omega) | exact IntWalk.u32_in _ (by omega) | exact IntWalk.u16_in _ (by omega) | exact IntWalk.u8_in _ (by omega) | exact IntWalk.i64_in _ (by omega) | skip)
            case r14_1o8 =>
              intro vs w hb hV
              rw [if_pos (by kernel_rfl)]
              generalize hρ : rho _ _ _ vs = ρ
              have d75 : (vs 7) = .bool false := hV 7 (by kernel_rfl)
              have e75 : ρ (.tmp 75) = vs 7 := by rw [← hρ]; kernel_rfl
              clear hρ hV
              refine runs_val (v := vs 7) (w' := w) ?_ ⟨Below.refl _ _, d75⟩
              go_simp
            case r14_1o9 =>
              intro vs w hb hV
              rw [if_pos (by kernel_rfl)]
              generalize hρ : rho _ _ _ vs = ρ
              have e9 : ρ (.tmp 9) = .slice O1 ol oc := by rw [← hρ]; kernel_rfl
              clear hρ hV
              refine runs_val (v := .slice O1 ol oc) (w' := w) ?_ ⟨Below.refl _ _, rfl⟩
              go_simp <;> (first | exact IntWalk.u64_in _ (by omega) | exact IntWalk.u32_in _ (by omega) | exact IntWalk.u16_in _ (by omega) | exact IntWalk.u8_in _ (by omega) | exact IntWalk.i64_in _ (by omega) | skip)
            case r14_1o10 =>
              intro vs w hb hV
              rw [if_pos (by kernel_rfl)]
              generalize hρ : rho _ _ _ vs = ρ
              have e12 : ρ (.tmp 12) = .slice O2 ol oc2 := by rw [← hρ]; kernel_rfl
              clear hρ hV
              refine runs_val (v := .slice O2 ol oc2) (w' := w) ?_ ⟨Below.refl _ _, rfl⟩
              go_simp <;> (first | exact IntWalk.u64_in _ (by omega) | exact IntWalk.u32_in _ (by omega) | exact IntWalk.u16_in _ (by omega) | exact IntWalk.u8_in _ (by omega) | exact IntWalk.i64_in _ (by omega) | skip)
            case r14_1o11 =>
              intro vs w hb hV
              rw [if_pos (by kernel_rfl)]
              generalize hρ : rho _ _ _ vs = ρ
              have d77 : (vs 9) = .slice O1 ol oc := hV 9 (by kernel_rfl)
              have e77 : ρ (.tmp 77) = vs 9 := by rw [← hρ]; kernel_rfl
              rw [d77] at e77; clear d77
              have d78 : (vs 10) = .slice O2 ol oc2 := hV 10 (by kernel_rfl)
              have e78 : ρ (.tmp 78) = vs 10 := by rw [← hρ]; kernel_rfl
              rw [d78] at e78; clear d78
              have ef13 : ρ (.func 13) = .func (.func 13) #[] #[] := by rw [← hρ]; rfl
              clear hρ hV
              refine runs_call (f := 13) (args := #[.slice O1 ol oc, .slice O2 ol oc2]) (w' := w) ?_ ?_
              · go_simp
              · refine (same_is true _ _ _ _ _ _ _ _ _ (Kd.C_below X3.out.2.1 hb) X3.out.1 (Kd.C_below X3.out.2.2.2 hb) X3.out.2.2.1 (by simp)).mono ?_
                rintro e w6 ⟨rfl, hd5⟩
                exact ⟨_, rfl, hd5.below, rfl⟩
            case r14_1o12 =>
              intro vs w hb hV
              rw [if_pos (by kernel_rfl)]
              generalize hρ : rho _ _ _ vs = ρ
              have d79 : (vs 11) = .bool true := hV 11 (by kernel_rfl)
              have e79 : ρ (.tmp 79) = vs 11 := by rw [← hρ]; kernel_rfl
              rw [d79] at e79; clear d79
              clear hρ hV
              refine runs_val (v := .bool false) (w' := w) ?_ ⟨Below.refl _ _, rfl⟩
              go_simp <;> (first | exact IntWalk.u64_in _ (by omega) | exact IntWalk.u32_in _ (by omega) | exact IntWalk.u16_in _ (by omega) | exact IntWalk.u8_in _ (by omega) | exact IntWalk.i64_in _ (by omega) | skip)
            case r14_1o13 =>
              intro vs w hb hV
              rw [if_pos (by kernel_rfl)]
              generalize hρ : rho _ _ _ vs = ρ
              have d76 : (vs 8) = .bool false := hV 8 (by kernel_rfl)
              have e76 : ρ (.tmp 76) = vs 8 := by rw [← hρ]; kernel_rfl
              rw [d76] at e76; clear d76
              have d80 : (vs 12) = .bool false := hV 12 (by kernel_rfl)
              have e80 : ρ (.tmp 80) = vs 12 := by rw [← hρ]; kernel_rfl
              rw [d80] at e80; clear d80
              have econ : ∀ v : Value, ρ (.const v) = v := fun v => by rw [← hρ]; rfl
              clear hρ hV
              refine runs_val (v := .bool false) (w' := w) ?_ ⟨Below.refl _ _, rfl⟩
              go_simp <;> (first | exact IntWalk.u64_in _ (by omega) | exact IntWalk.u32_in _ (by omega) | exact IntWalk.u16_in _ (by omega) | exact IntWalk.u8_in _ (by omega) | exact IntWalk.i64_in _ (by omega) | skip)
            case r14_1o14 =>
              intro vs w hb hV
              rw [if_pos (by kernel_rfl)]
              generalize hρ : rho _ _ _ vs = ρ
              have d81 : (vs 13) = .bool false := hV 13 (by kernel_rfl)
              have e81 : ρ (.tmp 81) = vs 13 := by rw [← hρ]; kernel_rfl
              clear hρ hV
              refine runs_val (v := vs 13) (w' := w) ?_ ⟨Below.refl _ _, d81⟩
              go_simp
            case r14_1o15 =>
              intro vs w hb hV
              rw [if_pos (by kernel_rfl)]
              generalize hρ : rho _ _ _ vs = ρ
              have e5 : ρ (.tmp 5) = .pointer (some ⟨g, 0, none⟩) := by rw [← hρ]; kernel_rfl
              have ef18 : ρ (.func 18) = .func (.func 18) #[] #[] := by rw [← hρ]; rfl
              clear hρ hV
              refine runs_call (f := 18) (args := #[.pointer (some ⟨g, 0, none⟩)]) (w' := w) ?_ ?_
              · go_simp
              · refine (held_any _ _ _ _ _ (X1.out.below hb)).mono ?_
                rintro e w6 ⟨rfl, hd5⟩
                exact ⟨_, rfl, hd5, by rw [kOf_len, HPL.out]; rfl⟩
            case r14_1o16 =>
              intro vs w hb hV
              rw [if_pos (by kernel_rfl)]
              generalize hρ : rho _ _ _ vs = ρ
              have e6 : ρ (.tmp 6) = .pointer (some ⟨gx, 0, none⟩) := by rw [← hρ]; kernel_rfl
              clear hρ hV
              refine runs_val (v := .pointer (some ⟨gx, 0, none⟩)) (w' := w) ?_ ⟨Below.refl _ _, rfl⟩
              go_simp <;> (first | exact IntWalk.u64_in _ (by omega) | exact IntWalk.u32_in _ (by omega) | exact IntWalk.u16_in _ (by omega) | exact IntWalk.u8_in _ (by omega) | exact IntWalk.i64_in _ (by omega) | skip)
            case r14_1o17 =>
              intro vs w hb hV
              rw [if_pos (by kernel_rfl)]
              generalize hρ : rho _ _ _ vs = ρ
              have d84 : (vs 16) = .pointer (some ⟨gx, 0, none⟩) := hV 16 (by kernel_rfl)
              have e84 : ρ (.tmp 84) = vs 16 := by rw [← hρ]; kernel_rfl
              rw [d84] at e84; clear d84
              have ef19 : ρ (.func 19) = .func (.func 19) #[] #[] := by rw [← hρ]; rfl
              clear hρ hV
              refine runs_call (f := 19) (args := #[.pointer (some ⟨gx, 0, none⟩)]) (w' := w) ?_ ?_
              · go_simp
              · refine (refheld_any gx QL L'.length lc L' sk' w (X2.out.below hb).1 (Kd.C_below X4.out.2 hb) X4.out.1 (by rw [HPL.out]; have := HGB.out.2.1; rw [kOf_len, HPL.out] at this; omega)).mono ?_
                rintro e w6 ⟨v6, rfl, hv6, hd5⟩
                obtain ⟨A6, c6, rfl⟩ := Kd.R_slice hv6
                rw [HPL.out]
                exact ⟨_, rfl, hd5, A6, .inr ⟨c6, rfl⟩⟩
            case r14_1o18 =>
              intro vs w hb hV
              rw [if_pos (by kernel_rfl)]
              generalize hρ : rho _ _ _ vs = ρ
              have d85 : (fun (w : World) (v : Value) => ∃ A, v = .slice A pl pl ∨ ∃ c, v = .slice A pl c) w (vs 17) := hV 17 (by kernel_rfl)
              have e85 : ρ (.tmp 85) = vs 17 := by rw [← hρ]; kernel_rfl
              obtain ⟨A85, h85⟩ := d85
              clear hρ hV
              obtain ⟨cx, hx⟩ : ∃ c, vs 17 = .slice A85 pl c := h85.elim (fun h => ⟨_, h⟩) id
              rw [hx] at e85
              refine runs_val (v := .int .i64 pl) (w' := w) ?_ ⟨Below.refl _ _, rfl⟩
              go_simp
            case r14_1o19 =>
              intro vs w hb hV
              rw [if_pos (by kernel_rfl)]
              generalize hρ : rho _ _ _ vs = ρ
              have d83 : (vs 15) = .int .i64 pl := hV 15 (by kernel_rfl)
              have e83 : ρ (.tmp 83) = vs 15 := by rw [← hρ]; kernel_rfl
              rw [d83] at e83; clear d83
              have d86 : (vs 18) = .int .i64 pl := hV 18 (by kernel_rfl)
              have e86 : ρ (.tmp 86) = vs 18 := by rw [← hρ]; kernel_rfl
              rw [d86] at e86; clear d86
              clear hρ hV
              refine runs_val (v := .bool false) (w' := w) ?_ ⟨Below.refl _ _, rfl⟩
              go_simp <;> (first | exact IntWalk.u64_in _ (by omega) | exact IntWalk.u32_in _ (by omega) | exact IntWalk.u16_in _ (by omega) | exact IntWalk.u8_in _ (by omega) | exact IntWalk.i64_in _ (by omega) | skip)
            case r14_1o20 =>
              intro vs w hb hV
              rw [if_pos (by kernel_rfl)]
              generalize hρ : rho _ _ _ vs = ρ
              have d82 : (vs 14) = .bool false := hV 14 (by kernel_rfl)
              have e82 : ρ (.tmp 82) = vs 14 := by rw [← hρ]; kernel_rfl
              rw [d82] at e82; clear d82
              have d87 : (vs 19) = .bool false := hV 19 (by kernel_rfl)
              have e87 : ρ (.tmp 87) = vs 19 := by rw [← hρ]; kernel_rfl
              rw [d87] at e87; clear d87
              have econ : ∀ v : Value, ρ (.const v) = v := fun v => by rw [← hρ]; rfl
              clear hρ hV
              refine runs_val (v := .bool false) (w' := w) ?_ ⟨Below.refl _ _, rfl⟩
              go_simp <;> (first | exact IntWalk.u64_in _ (by omega) | exact IntWalk.u32_in _ (by omega) | exact IntWalk.u16_in _ (by omega) | exact IntWalk.u8_in _ (by omega) | exact IntWalk.i64_in _ (by omega) | skip)
            case r14_1o21 =>
              intro vs w hb hV
              rw [if_pos (by kernel_rfl)]
              generalize hρ : rho _ _ _ vs = ρ
              have d88 : (vs 20) = .bool false := hV 20 (by kernel_rfl)
              have e88 : ρ (.tmp 88) = vs 20 := by rw [← hρ]; kernel_rfl
              clear hρ hV
              refine runs_val (v := vs 20) (w' := w) ?_ ⟨Below.refl _ _, d88⟩
              go_simp
            case r14_1o22 =>
              intro vs w hb hV
              rw [if_pos (by kernel_rfl)]
              generalize hρ : rho _ _ _ vs = ρ
              have e5 : ρ (.tmp 5) = .pointer (some ⟨g, 0, none⟩) := by rw [← hρ]; kernel_rfl
              have ef20 : ρ (.func 20) = .func (.func 20) #[] #[] := by rw [← hρ]; rfl
              clear hρ hV
              refine runs_call (f := 20) (args := #[.pointer (some ⟨g, 0, none⟩)]) (w' := w) ?_ ?_
              · go_simp
              · refine (open_any _ _ _ _ _ (X1.out.below hb)).mono ?_
                rintro e w6 ⟨rfl, hd5⟩
                exact ⟨_, rfl, hd5, by rw [show (kOf L' sk').op = (!L'.isEmpty) from rfl, HOB.out]; rfl⟩
            case r14_1o23 =>
              intro vs w hb hV
              rw [if_pos (by kernel_rfl)]
              generalize hρ : rho _ _ _ vs = ρ
              have e6 : ρ (.tmp 6) = .pointer (some ⟨gx, 0, none⟩) := by rw [← hρ]; kernel_rfl
              clear hρ hV
              refine runs_val (v := .pointer (some ⟨gx, 0, none⟩)) (w' := w) ?_ ⟨Below.refl _ _, rfl⟩
              go_simp <;> (first | exact IntWalk.u64_in _ (by omega) | exact IntWalk.u32_in _ (by omega) | exact IntWalk.u16_in _ (by omega) | exact IntWalk.u8_in _ (by omega) | exact IntWalk.i64_in _ (by omega) | skip)
            case r14_1o24 =>
              intro vs w hb hV
              rw [if_pos (by kernel_rfl)]
              generalize hρ : rho _ _ _ vs = ρ
              have d91 : (vs 23) = .pointer (some ⟨gx, 0, none⟩) := hV 23 (by kernel_rfl)
              have e91 : ρ (.tmp 91) = vs 23 := by rw [← hρ]; kernel_rfl
              rw [d91] at e91; clear d91
              clear hρ hV
              refine runs_val (v := .pointer (some ⟨gx, 0, none⟩)) (w' := w) ?_ ⟨Below.refl _ _, rfl⟩
              go_simp <;> (first | exact IntWalk.u64_in _ (by omega) | exact IntWalk.u32_in _ (by omega) | exact IntWalk.u16_in _ (by omega) | exact IntWalk.u8_in _ (by omega) | exact IntWalk.i64_in _ (by omega) | skip)
            case r14_1o25 =>
              intro vs w hb hV
              rw [if_pos (by kernel_rfl)]
              generalize hρ : rho _ _ _ vs = ρ
              have d92 : (vs 24) = .pointer (some ⟨gx, 0, none⟩) := hV 24 (by kernel_rfl)
              have e92 : ρ (.tmp 92) = vs 24 := by rw [← hρ]; kernel_rfl
              rw [d92] at e92; clear d92
              clear hρ hV
              refine runs_val (v := .pointer (some ⟨gx, 0, none⟩)) (w' := w) ?_ ⟨Below.refl _ _, rfl⟩
              go_simp <;> (first | exact IntWalk.u64_in _ (by omega) | exact IntWalk.u32_in _ (by omega) | exact IntWalk.u16_in _ (by omega) | exact IntWalk.u8_in _ (by omega) | exact IntWalk.i64_in _ (by omega) | skip)
            case r14_1o26 =>
              intro vs w hb hV
              rw [if_pos (by kernel_rfl)]
              generalize hρ : rho _ _ _ vs = ρ
              have d93 : (vs 25) = .pointer (some ⟨gx, 0, none⟩) := hV 25 (by kernel_rfl)
              have e93 : ρ (.tmp 93) = vs 25 := by rw [← hρ]; kernel_rfl
              rw [d93] at e93; clear d93
              clear hρ hV
              have c0 := pw_cell_below hb d0
              refine runs_val (v := .slice QL ln lc) (w' := w) ?_ ⟨Below.refl _ _, rfl⟩
              go_simp
            case r14_1o27 =>
              intro vs w hb hV
              rw [if_pos (by kernel_rfl)]
              generalize hρ : rho _ _ _ vs = ρ
              have d94 : (vs 26) = .slice QL ln lc := hV 26 (by kernel_rfl)
              have e94 : ρ (.tmp 94) = vs 26 := by rw [← hρ]; kernel_rfl
              rw [d94] at e94; clear d94
              clear hρ hV
              refine runs_val (v := .int .i64 ln) (w' := w) ?_ ⟨Below.refl _ _, rfl⟩
              go_simp <;> (first | exact IntWalk.u64_in _ (by omega) | exact IntWalk.u32_in _ (by omega) | exact IntWalk.u16_in _ (by omega) | exact IntWalk.u8_in _ (by omega) | exact IntWalk.i64_in _ (by omega) | skip)
            case r14_1o28 =>
              intro vs w hb hV
              rw [if_pos (by kernel_rfl)]
              generalize hρ : rho _ _ _ vs = ρ
              have d95 : (vs 27) = .int .i64 ln := hV 27 (by kernel_rfl)
              have e95 : ρ (.tmp 95) = vs 27 := by rw [← hρ]; kernel_rfl
              rw [d95] at e95; clear d95
              have econ : ∀ v : Value, ρ (.const v) = v := fun v => by rw [← hρ]; rfl
              clear hρ hV
              have hq : decide (0 < ln) = ob := by rw [← HOB2.out]; simp
              refine runs_val (v := .bool ob) (w' := w) ?_ ⟨Below.refl _ _, rfl⟩
              go_simp
            case r14_1o29 =>
              intro vs w hb hV
              rw [if_pos (by kernel_rfl)]
              generalize hρ : rho _ _ _ vs = ρ
              have d90 : (vs 22) = .bool ob := hV 22 (by kernel_rfl)
              have e90 : ρ (.tmp 90) = vs 22 := by rw [← hρ]; kernel_rfl
              rw [d90] at e90; clear d90
              have d96 : (vs 28) = .bool ob := hV 28 (by kernel_rfl)
              have e96 : ρ (.tmp 96) = vs 28 := by rw [← hρ]; kernel_rfl
              rw [d96] at e96; clear d96
              clear hρ hV
              refine runs_val (v := .bool false) (w' := w) ?_ ⟨Below.refl _ _, rfl⟩
              go_simp <;> (first | exact IntWalk.u64_in _ (by omega) | exact IntWalk.u32_in _ (by omega) | exact IntWalk.u16_in _ (by omega) | exact IntWalk.u8_in _ (by omega) | exact IntWalk.i64_in _ (by omega) | skip)
            case r14_1o30 =>
              intro vs w hb hV
              rw [if_pos (by kernel_rfl)]
              generalize hρ : rho _ _ _ vs = ρ
              have d89 : (vs 21) = .bool false := hV 21 (by kernel_rfl)
              have e89 : ρ (.tmp 89) = vs 21 := by rw [← hρ]; kernel_rfl
              rw [d89] at e89; clear d89
              have d97 : (vs 29) = .bool false := hV 29 (by kernel_rfl)
              have e97 : ρ (.tmp 97) = vs 29 := by rw [← hρ]; kernel_rfl
              rw [d97] at e97; clear d97
              have econ : ∀ v : Value, ρ (.const v) = v := fun v => by rw [← hρ]; rfl
              clear hρ hV
              refine runs_val (v := .bool false) (w' := w) ?_ ⟨Below.refl _ _, rfl⟩
              go_simp <;> (first | exact IntWalk.u64_in _ (by omega) | exact IntWalk.u32_in _ (by omega) | exact IntWalk.u16_in _ (by omega) | exact IntWalk.u8_in _ (by omega) | exact IntWalk.i64_in _ (by omega) | skip)
            case r14_1e =>
              intro vs V2 hb2 hV
              have d68 : (vs 0) = .int .i64 pe := hV 0 (Nat.le_of_ble_eq_true rfl)
              have d69 : (vs 1) = .int .i64 pe := hV 1 (Nat.le_of_ble_eq_true rfl)
              have d70 : (vs 2) = .bool false := hV 2 (Nat.le_of_ble_eq_true rfl)
              have d71 : (vs 3) = .bool false := hV 3 (Nat.le_of_ble_eq_true rfl)
              have d72 : (vs 4) = .bool pb := hV 4 (Nat.le_of_ble_eq_true rfl)
              have d73 : (vs 5) = .bool pb := hV 5 (Nat.le_of_ble_eq_true rfl)
              have d74 : (vs 6) = .bool false := hV 6 (Nat.le_of_ble_eq_true rfl)
              have d75 : (vs 7) = .bool false := hV 7 (Nat.le_of_ble_eq_true rfl)
              have d76 : (vs 8) = .bool false := hV 8 (Nat.le_of_ble_eq_true rfl)
              have d77 : (vs 9) = .slice O1 ol oc := hV 9 (Nat.le_of_ble_eq_true rfl)
              have d78 : (vs 10) = .slice O2 ol oc2 := hV 10 (Nat.le_of_ble_eq_true rfl)
              have d79 : (vs 11) = .bool true := hV 11 (Nat.le_of_ble_eq_true rfl)
              have d80 : (vs 12) = .bool false := hV 12 (Nat.le_of_ble_eq_true rfl)
              have d81 : (vs 13) = .bool false := hV 13 (Nat.le_of_ble_eq_true rfl)
              have d82 : (vs 14) = .bool false := hV 14 (Nat.le_of_ble_eq_true rfl)
              have d83 : (vs 15) = .int .i64 pl := hV 15 (Nat.le_of_ble_eq_true rfl)
              have d84 : (vs 16) = .pointer (some ⟨gx, 0, none⟩) := hV 16 (Nat.le_of_ble_eq_true rfl)
              have d85 : (fun (w : World) (v : Value) => ∃ A, v = .slice A pl pl ∨ ∃ c, v = .slice A pl c) V2 (vs 17) := hV 17 (Nat.le_of_ble_eq_true rfl)
              have d86 : (vs 18) = .int .i64 pl := hV 18 (Nat.le_of_ble_eq_true rfl)
              have d87 : (vs 19) = .bool false := hV 19 (Nat.le_of_ble_eq_true rfl)
              have d88 : (vs 20) = .bool false := hV 20 (Nat.le_of_ble_eq_true rfl)
              have d89 : (vs 21) = .bool false := hV 21 (Nat.le_of_ble_eq_true rfl)
              have d90 : (vs 22) = .bool ob := hV 22 (Nat.le_of_ble_eq_true rfl)
              have d91 : (vs 23) = .pointer (some ⟨gx, 0, none⟩) := hV 23 (Nat.le_of_ble_eq_true rfl)
              have d92 : (vs 24) = .pointer (some ⟨gx, 0, none⟩) := hV 24 (Nat.le_of_ble_eq_true rfl)
              have d93 : (vs 25) = .pointer (some ⟨gx, 0, none⟩) := hV 25 (Nat.le_of_ble_eq_true rfl)
              have d94 : (vs 26) = .slice QL ln lc := hV 26 (Nat.le_of_ble_eq_true rfl)
              have d95 : (vs 27) = .int .i64 ln := hV 27 (Nat.le_of_ble_eq_true rfl)
              have d96 : (vs 28) = .bool ob := hV 28 (Nat.le_of_ble_eq_true rfl)
              have d97 : (vs 29) = .bool false := hV 29 (Nat.le_of_ble_eq_true rfl)
              have d98 : (vs 30) = .bool false := hV 30 (Nat.le_of_ble_eq_true rfl)
              clear hV
              simp only [putAll]
              rw [d68, d69, d70, d71, d72, d73, d74, d75, d76, d77, d78, d79, d80, d81, d82, d83, d84, d86, d87, d88, d89, d90, d91, d92, d93, d94, d95, d96, d97, d98]
              clear d68 d69 d70 d71 d72 d73 d74 d75 d76 d77 d78 d79 d80 d81 d82 d83 d84 d86 d87 d88 d89 d90 d91 d92 d93 d94 d95 d96 d97 d98
              generalize vs 17 = v85 at *
              clear vs
              simp only [Act.put, List.setIfInBounds_toArray, List.set_cons_zero, List.set_cons_succ]
              have Y1 := Aside0.mk (X1.out.below hb2)
              have Y2 := Aside0.mk (X2.out.below hb2)
              have BW := Aside0.mk (HB5.out.2.trans (hb2.mono (Nat.le_of_lt (blk_lt X1.out.1))))
              clear hb2 X1 X2 X3 X4 HB5 HPL HOB HOB2 HLN d0 d85
              go_wp2_with fail
              go_roundg (len - (i + 1))
              case measure => omega
              case rel =>
                exact ⟨i + 1, L', sk', v', _, by omega, rfl, by go_num, ⟨Y1.out, Y2.out, HGB.out.2.2.1, HGB.out.2.1, HGB.out.1.trans BW.out⟩⟩
    · have d1 : decide (i < len) = false := decide_eq_false hlt
      go_wp2_with fail
      go_ret
      exact ⟨rfl, HB.out⟩
end Go.Proofs.Ytmhninlndjcikaa
