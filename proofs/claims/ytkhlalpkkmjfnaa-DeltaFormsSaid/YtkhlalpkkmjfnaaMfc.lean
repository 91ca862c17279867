/- The parts of this proof, one behind the other: contracts of the functions, plain laws, the walk. -/
import Derived.Test.YtkhlalpkkmjfnaaMfb
import Derived.Test.YtkhlalpkkmjfnaaProg
import Derived.Below
import Derived.Deep.Draws
import Derived.Deep.AppendLies
import Derived.Maps.AppendAt
import Derived.OwnWalk
import Derived.Laws.BytesArg
import Derived.Laws.MakeOwn
import Derived.Laws.OwnMore
import Derived.Deep.OwnRows
import Derived.Tactics
import Derived.Lib.ConvBytes
import Derived.Laws.Slices
import Derived.WalkKit
import Derived.KernelRfl
import Derived.RowKit3
import Derived.Deep.LoopGhost
import Derived.Deep.QuietTactic
import Derived.BigQuiet
import Derived.WideLaws
import Derived.Deep.DeepCutAuto
import Derived.Deep.CutBlock
import Derived.Deep.RegionHeld3
import Derived.Laws.Rows
import Derived.Lib.AppendStr
import Derived.ArgAppend
import Derived.Laws.IdiomCopy
import Derived.OrdersHeld
import Derived.Laws.BitsLemmas
import Derived.RowKit
import Derived.Test.YtkhlalpkkmjfnaaWWords
import Derived.Test.YtkhlalpkkmjfnaaWLast
import Derived.Test.YtkhlalpkkmjfnaaWTab
import Derived.Test.YtkhlalpkkmjfnaaWFour
import Derived.Test.YtkhlalpkkmjfnaaWQPut
import Derived.Test.YtkhlalpkkmjfnaaWApart
import Derived.Test.YtkhlalpkkmjfnaaWArr
import Derived.Test.YtkhlalpkkmjfnaaWZeros
import Derived.Test.YtkhlalpkkmjfnaaWFoot
import Derived.Test.YtkhlalpkkmjfnaaWKept
import Derived.Test.YtkhlalpkkmjfnaaWShare
import Derived.Test.YtkhlalpkkmjfnaaWN
import Derived.Test.YtkhlalpkkmjfnaaWFootNe
import Derived.Test.YtkhlalpkkmjfnaaWAt
import Derived.Test.YtkhlalpkkmjfnaaWEqStruct
import Derived.Test.YtkhlalpkkmjfnaaWRepsOne
import Derived.Test.YtkhlalpkkmjfnaaWInv
import Derived.Test.YtkhlalpkkmjfnaaWInvWords
import Derived.Test.YtkhlalpkkmjfnaaWGuard
import Derived.Test.YtkhlalpkkmjfnaaWNEv
import Derived.Test.YtkhlalpkkmjfnaaWMore
namespace Go.Proofs.Ytkhlalpkkmjfnaa
open Go.RowKit Go.Proofs.YtkhlalpkkmjfnaaW.PrintWords Go.Proofs.YtkhlalpkkmjfnaaW.PrintLast Go.Proofs.YtkhlalpkkmjfnaaW.PrintMore
set_option linter.unusedVariables false
set_option linter.unusedSimpArgs false

theorem Hp.eye {B0 B ge g : Nat} {w0 w w' : World} {o : Obj} {l : List Int} {b : Bool} (h : Hp B0 w0 w [(g, o)] []) (he : EyTo w w' ge B l b) (h0 : B0 ≤ ge) (hne : g ≠ ge) : Hp B0 w0 w' [(g, o)] [] :=
  h.rows (r1 := some ge) (r2 := none) (he.2.2.mono h0) ((he.2.1.2 g (h.lt (i := 0) rfl) hne (by simp)).trans (h.get (i := 0) rfl)) (fun k hk _ hn _ => he.2.1.2 k hk (fun e => hn (by rw [e])) (by simp)) (fun p hp => by cases hp)
theorem OfR.belowR {b : Nat} {w w' : World} {tk hs : Int} {P : List Int} {C : List S30} {v : Value} (h : OfR b w tk hs P C v) (hb : Below w.heap.size w w') : OfR b w' tk hs P C v := by
  obtain ⟨A, c, A2, c2, e, h1, h2, h3, h4⟩ := h
  exact ⟨A, c, A2, c2, e, h1, h2, Kd.R_below h3 hb, Kd.R_below h4 hb⟩
theorem OfR.setRow9 {b g T : Nat} {w : World} {tk hs : Int} {P : List Int} {C : List S30} {v : Value} {cur cs : Array Value} (h : OfR b w tk hs P C v) (hg : w.heap[g]? = some (.cells cur T (0, 0))) (h1 : 5 ≠ T) (h2 : 30 ≠ T) : OfR b (w.setRow g cs) tk hs P C v := by
  obtain ⟨A, c, A2, c2, e, k1, k2, h3, h4⟩ := h
  exact ⟨A, c, A2, c2, e, k1, k2, Kd.R_grown2 h3 rfl (grown_setRow _ _ _) (fun k hk => by cases hk; exact Kd.R_ne h3 hg h1), Kd.R_grown2 h4 rfl (grown_setRow _ _ _) (fun k hk => by cases hk; exact Kd.R_ne h4 hg h2)⟩
def Z4 : Array Value := #[.int .u32 0, .int .u32 0, .slice none 0 0, .slice none 0 0]
def ParseR (q : List Int) (b : Nat) (w' : World) (e : Ending) : Prop :=
  if okD q = true then ∃ v, e = .returned (.tuple #[v, .int .i64 0]) ∧ OfR b w' (leN (q.take 4)) (leN ((q.drop 4).take 4)) (pL (q.drop 9) (cntD q)) (cL (q.drop 9) (cntD q)) v
  else e = .returned (.tuple #[.agg Z4, .int .i64 2])
theorem zero_delta (w : World) : (zeroValue 41).run Try.prog w = .ok (.agg #[.int .u32 0, .int .u32 0, .slice none 0 0, .slice none 0 0]) w := by kernel_rfl

set_option maxRecDepth 100000 in
set_option maxHeartbeats 16000000 in
theorem parse_any (A : Option Addr) (n c : Nat) (q : List Int) (w00 : World) (hq : (Kd.int .u8).C w00 A n q) (hn : n ≤ 100000000) (hb : Bytes q) :
    Calls Try.prog 30 #[.slice A n c] w00 fun e w' => ParseR q w00.heap.size w' e ∧ Below w00.heap.size w00 w' := by
  have H0 := Aside0.mk ((Hp.start w00).alloc (.cells #[.int .u32 0, .int .u32 0, .slice none 0 0, .slice none 0 0] 41))
  have KR := Aside0.mk (read_any A n c q (w00.alloc (.cells #[.int .u32 0, .int .u32 0, .slice none 0 0, .slice none 0 0] 41)) (Kd.C_alloc hq _) hn)
  have HBQ := Aside0.mk hb
  clear hq hn hb
  go_enter Try.func30, Try.ntmps30
  go_wp2_with fail
  refine KR.out.mono ?_
  rintro e w1 ⟨ge, rfl, hge, hEy, hb1⟩
  obtain ⟨B0, hB0⟩ : ∃ B0, w00.heap.size = B0 := ⟨_, rfl⟩
  obtain ⟨B, hB⟩ : ∃ B, w1.heap.size = B := ⟨_, rfl⟩
  rw [hB] at hEy
  have hge2 : B0 < ge := by rw [← hB0]; simp at hge; omega
  have H1 := Aside0.mk (H0.out.call hb1)
  rw [hB0] at H1
  rw [hB0]
  have HB0 := Aside0.mk hB0
  have hgB : ge < B := by obtain ⟨_, _, _, _, _, _, _, h5⟩ := hEy; exact h5
  have HGE := Aside0.mk (And.intro hge2 hgB)
  have HBW : Aside0 (B = w1.heap.size) := ⟨hB.symm⟩
  obtain ⟨⟨tt, l1, b1⟩, e1⟩ : ∃ x, eFix 4 q false = x := ⟨_, rfl⟩
  obtain ⟨⟨hh, l2, b2⟩, e2⟩ : ∃ x, eFix 4 l1 b1 = x := ⟨_, rfl⟩
  obtain ⟨⟨nn, l3, b3⟩, e3⟩ : ∃ x, eByte l2 b2 = x := ⟨_, rfl⟩
  have HHD := Aside0.mk (head_step HBQ.out e1 e2 e3)
  have hBl1 : Bytes l1 := by have := eFix_b (bad := false) 4 HBQ.out; rw [e1] at this; exact this
  have hBl2 : Bytes l2 := by have := eFix_b (bad := b1) 4 hBl1; rw [e2] at this; exact this
  have K1 := eword_any ge B q false w1 hEy HBQ.out
  rw [e1] at K1
  have KK1 := Aside0.mk K1
  have KK2 := Aside0.mk (fun (X : World) (hx : Ey X ge B l1 b1) => eword_any ge B l1 b1 X hx hBl1)
  rw [e2] at KK2
  have KK3 := Aside0.mk (fun (X : World) (hx : Ey X ge B l2 b2) => ebyte_any ge B l2 b2 X hx)
  rw [e3] at KK3
  clear hB0 hB hge hge2 hgB hEy hb1 H0 KR K1 e1 e2 e3 hBl1 hBl2
  go_wp2_with fail
  refine KK1.out.mono ?_
  rintro e w2 ⟨rfl, he2⟩
  have H2 := Aside0.mk (H1.out.eye he2 (Nat.le_of_lt HGE.out.1) (Nat.ne_of_lt HGE.out.1))
  have HE2 := Aside0.mk he2
  clear he2 H1 KK1
  go_wp2_with fail
  refine (KK2.out _ HE2.out.1).mono ?_
  rintro e w3 ⟨rfl, he3⟩
  have H3 := Aside0.mk (H2.out.eye he3 (Nat.le_of_lt HGE.out.1) (Nat.ne_of_lt HGE.out.1))
  have hsz : B ≤ w3.heap.size := by have h1 := HE2.out.2.1.1; have h2 := he3.2.1.1; have := HBW.out; omega
  have HSZ := Aside0.mk hsz
  have H4 := Aside0.mk (H3.out.alloc (.cells #[.int .u32 tt, .int .u32 hh, .slice none 0 0, .slice none 0 0] 41))
  have HE4 := Aside0.mk (he3.1.below ((below_alloc (Below.refl w3.heap.size w3) (.cells #[.int .u32 tt, .int .u32 hh, .slice none 0 0, .slice none 0 0] 41)).mono hsz) hsz)
  clear he3 hsz H2 H3 HE2 KK2
  go_wp2_with fail
  have S0 : Aside0 (PSt B0 B ge w3.heap.size w00 (w3.alloc (.cells #[.int .u32 tt, .int .u32 hh, .slice none 0 0, .slice none 0 0] 41)) tt hh l2 b2 (.slice none 0 0) (.slice none 0 0) (.slice none 0 0) (.slice none 0 0) [] []) := ⟨HE4.out, H4.out, Kd.R_nil _ _ _ _ _, Kd.R_nil _ _ _ _ _, HSZ.out, Nat.le_of_lt HGE.out.1, HGE.out.2, HGE.out.1⟩
  refine (KK3.out _ S0.out.1).mono ?_
  rintro e w5 ⟨rfl, he5⟩
  have S1 := Aside0.mk (S0.out.eye he5)
  clear he5 H4 HE4 KK3 S0 HSZ HBW
  generalize w3.heap.size = gd at *
  obtain ⟨m, hm⟩ : ∃ m : Nat, nn = (m : Int) := ⟨nn.toNat, by have := HHD.out.2.1; omega⟩
  subst hm
  have hm255 : (m : Int) ≤ 255 := by have := HHD.out.2.2.1; omega
  go_wp2_with fail
  go_loopw [17] (fun v17 wr => ∃ i : Nat, i ≤ m ∧ v17 = .int .u8 i ∧ ∃ (l : List Int) (bad : Bool) (P : List Int) (C : List S30) (vP vC : Value), Aside0 (EyP q i l bad P C ∧ PSt B0 B ge gd w00 wr tt hh l bad vP vC vP vC P C)) (fun v17 _ => m - (intOf v17).toNat)
  case atStart => exact ⟨0, by omega, rfl, l3, b3, [], [], .slice none 0 0, .slice none 0 0, ⟨HHD.out.1, S1.out⟩⟩
  case round =>
    clear S1
    obtain ⟨i, hi, rfl, l, bad, P, C, vP, vC, H⟩ := hrel
    by_cases hlt : i < m
    · have d1 : decide (i < m) = true := decide_eq_true hlt
      have hi0 : (0 : Int) ≤ i := by omega
      have him : (i : Int) < m := by omega
      have hi8 : (i : Int) < 255 := by omega
      obtain ⟨⟨b, l1, b1⟩, e1⟩ : ∃ x, eByte l bad = x := ⟨_, rfl⟩
      obtain ⟨⟨vv, l2, b2⟩, e2⟩ : ∃ x, eFix 4 l1 b1 = x := ⟨_, rfl⟩
      obtain ⟨⟨mk, l3', b3'⟩, e3⟩ : ∃ x, eFix 4 l2 b2 = x := ⟨_, rfl⟩
      have HST := Aside0.mk (row_step H.out.1 e1 e2 e3)
      have hBl : Bytes l := H.out.1.2.2.1
      have hBl1 : Bytes l1 := by have := eByte_b (bad := bad) hBl; rw [e1] at this; exact this.2
      have hBl2 : Bytes l2 := by have := eFix_b (bad := b1) 4 hBl1; rw [e2] at this; exact this
      have HLN : Aside0 (P.length ≤ 255 ∧ C.length ≤ 255) := ⟨by have h1 := H.out.1.1; have h2 := H.out.1.2.1; omega⟩
      have K1 := Aside0.mk (fun (X : World) (hx : Ey X ge B l bad) => ebyte_any ge B l bad X hx)
      have K2 := Aside0.mk (fun (X : World) (hx : Ey X ge B l1 b1) => eword_any ge B l1 b1 X hx hBl1)
      have K3 := Aside0.mk (fun (X : World) (hx : Ey X ge B l2 b2) => eword_any ge B l2 b2 X hx hBl2)
      rw [e1] at K1
      rw [e2] at K2
      rw [e3] at K3
      have S := Aside0.mk H.out.2
      clear e1 e2 e3 hBl hBl1 hBl2 H
      go_wp2_with fail
      have GW : Aside0 (∀ b', wr.heap.size ≤ b' → some b' ≠ vP.ownBlock ∧ some b' ≠ vC.ownBlock ∧ b' ≠ gd ∧ b' ≠ ge) := ⟨fun b' hb' => ⟨fun e => by have := Kd.R_lt S.out.2.2.1 _ e.symm; omega, fun e => by have := Kd.R_lt S.out.2.2.2.1 _ e.symm; omega, fun e => by have := S.out.2.1.lt (i := 0) rfl; omega, fun e => by have := S.out.le; have := HGE.out.2; omega⟩⟩
      refine regionS (W := wr)
        [fun _ v => v = .pointer (some ⟨gd, 2, none⟩),
         fun _ v => v = vP,
         fun _ v => v = .pointer (some ⟨ge, 0, none⟩),
         fun _ v => v = .int .u8 b,
         fun (w : World) (v : Value) => ∃ bl, v = .slice (some ⟨bl, 0, none⟩) 1 1 ∧ wr.heap.size ≤ bl ∧ w.heap[bl]? = some (.cells #[.int .u8 b] 5 (0, 0)),
         fun _ _ => True,
         fun _ v => v = .pointer (some ⟨gd, 2, none⟩),
         fun _ _ => True]
        [3, 5, 7]
        (fun t => match t with | 0 => fun (rs : List Value) (w : World) => PSt B0 B ge gd w00 w tt hh l bad vP vC vP vC P C | 1 => fun (rs : List Value) (w : World) => PSt B0 B ge gd w00 w tt hh l1 b1 vP vC vP vC P C | 2 => fun (rs : List Value) (w : World) => PSt B0 B ge gd w00 w tt hh l1 b1 vP vC (rs.getD 1 undef) vC (P ++ [b]) C | 3 => fun (rs : List Value) (w : World) => ∃ u, PSt B0 B ge gd w00 w tt hh l1 b1 u vC u vC (P ++ [b]) C | _ => fun _ _ => False)
        (fun _ w w' => ∀ b', wr.heap.size ≤ b' → b' < w.heap.size → w'.heap[b']? = w.heap[b']?) (fun w => wr.heap.size ≤ w.heap.size)
        (fun j =>  none)
        [(0, some 19), (1, some 20), (2, some 21), (3, some 22), (4, some 23), (5, some 24), (6, some 25), (7, none)]
        []
        (by kernel_rfl) (by kernel_rfl) (by kernel_rfl) (by kernel_rfl) (by kernel_rfl) ?z5_1c ?z5_1i ?z5_1b ?z5_1d ?z5_1g ⟨?z5_1t0, ?z5_1t1, ?z5_1t2, ?z5_1t3, ?z5_1t4, ?z5_1t5, ?z5_1t6, ?z5_1t7, trivial⟩ ⟨?z5_1o0, ?z5_1o1, ?z5_1o2, ?z5_1o3, ?z5_1o4, ?z5_1o5, ?z5_1o6, ?z5_1o7, trivial⟩ ?z5_1e
      case z5_1c => exact (Nat.le_refl _)
      case z5_1i => exact (S.out.below (below_drew (Below.refl _ _)))
      case z5_1b => intro w w' hb h; exact Nat.le_trans h hb.size
      case z5_1d =>
        intro t rs w w' hb h
        match t, h with
        | 0, h => (replace h : PSt B0 B ge gd w00 w tt hh l bad vP vC vP vC P C := h); show PSt B0 B ge gd w00 w' tt hh l bad vP vC vP vC P C; first | exact PSt.below h hb | (obtain ⟨u, h⟩ := h; exact ⟨u, PSt.below h hb⟩)
        | 1, h => (replace h : PSt B0 B ge gd w00 w tt hh l1 b1 vP vC vP vC P C := h); show PSt B0 B ge gd w00 w' tt hh l1 b1 vP vC vP vC P C; first | exact PSt.below h hb | (obtain ⟨u, h⟩ := h; exact ⟨u, PSt.below h hb⟩)
        | 2, h => (replace h : PSt B0 B ge gd w00 w tt hh l1 b1 vP vC (rs.getD 1 undef) vC (P ++ [b]) C := h); show PSt B0 B ge gd w00 w' tt hh l1 b1 vP vC (rs.getD 1 undef) vC (P ++ [b]) C; first | exact PSt.below h hb | (obtain ⟨u, h⟩ := h; exact ⟨u, PSt.below h hb⟩)
        | 3, h => (replace h : ∃ u, PSt B0 B ge gd w00 w tt hh l1 b1 u vC u vC (P ++ [b]) C := h); show ∃ u, PSt B0 B ge gd w00 w' tt hh l1 b1 u vC u vC (P ++ [b]) C; first | exact PSt.below h hb | (obtain ⟨u, h⟩ := h; exact ⟨u, PSt.below h hb⟩)
        | _ + 4, h => exact h.elim
      case z5_1g =>
        intro j hj; cases hj
      case z5_1t0 => exact StabS.const _ _ _ _
      case z5_1t1 => exact StabS.const _ _ _ _
      case z5_1t2 => exact StabS.const _ _ _ _
      case z5_1t3 => exact StabS.const _ _ _ _
      case z5_1t4 => exact ⟨(by intro w w' v hb h; (obtain ⟨bl, h1, h2, h3⟩ := h; exact ⟨bl, h1, h2, blk_below h3 hb⟩)), (by intro k hk hne w w' v ht h; (obtain ⟨bl, h1, h2, h3⟩ := h; exact ⟨bl, h1, h2, (ht bl h2 (blk_lt h3)).trans h3⟩))⟩
      case z5_1t5 => exact StabS.const _ _ _ _
      case z5_1t6 => exact StabS.const _ _ _ _
      case z5_1t7 => exact StabS.const _ _ _ _
      case z5_1o0 =>
        intro vs w t hC ht1 ht2 hS hV
        rw [if_pos (by kernel_rfl)]
        generalize hρ : rho _ _ _ vs = ρ
        have e5 : ρ (.tmp 5) = .pointer (some ⟨gd, 0, none⟩) := by rw [← hρ]; kernel_rfl
        clear hρ hV
        refine runs_val (v := .pointer (some ⟨gd, 2, none⟩)) (w' := w) ?_ ⟨Below.refl _ _, rfl⟩
        clear ht1 ht2 hS hC
        go_simp <;> (first | exact IntWalk.u64_in _ (by omega) | exact IntWalk.u32_in _ (by omega) | exact IntWalk.u16_in _ (by omega) | exact IntWalk.u8_in _ (by omega) | exact IntWalk.i64_in _ (by omega) | skip)
      case z5_1o1 =>
        intro vs w t hC ht1 ht2 hS hV
        rw [if_pos (by kernel_rfl)]
        generalize hρ : rho _ _ _ vs = ρ
        have d19 : (vs 0) = .pointer (some ⟨gd, 2, none⟩) := hV 0 (by kernel_rfl)
        have e19 : ρ (.tmp 19) = vs 0 := by rw [← hρ]; kernel_rfl
        rw [d19] at e19; clear d19
        clear hρ hV
        have ht0 : t ≤ 1 := by
          rcases Nat.lt_or_ge 1 t with hq | hq
          · exact absurd (ht1 1 5 _ hq rfl rfl) (by decide +kernel)
          · exact hq
        rcases (show t = 0 ∨ t = 1 by omega) with rfl | rfl
        · replace hS : PSt B0 B ge gd w00 w tt hh l bad vP vC vP vC P C := hS
          have c0 := PSt.cellP hS
          refine runs_val (v := vP) (w' := w) ?_ ⟨Below.refl _ _, rfl⟩
          clear ht1 ht2 hS hC
          go_simp
        · replace hS : PSt B0 B ge gd w00 w tt hh l1 b1 vP vC vP vC P C := hS
          have c0 := PSt.cellP hS
          refine runs_val (v := vP) (w' := w) ?_ ⟨Below.refl _ _, rfl⟩
          clear ht1 ht2 hS hC
          go_simp
      case z5_1o2 =>
        intro vs w t hC ht1 ht2 hS hV
        rw [if_pos (by kernel_rfl)]
        generalize hρ : rho _ _ _ vs = ρ
        have e4 : ρ (.tmp 4) = .pointer (some ⟨ge, 0, none⟩) := by rw [← hρ]; kernel_rfl
        clear hρ hV
        refine runs_val (v := .pointer (some ⟨ge, 0, none⟩)) (w' := w) ?_ ⟨Below.refl _ _, rfl⟩
        clear ht1 ht2 hS hC
        go_simp <;> (first | exact IntWalk.u64_in _ (by omega) | exact IntWalk.u32_in _ (by omega) | exact IntWalk.u16_in _ (by omega) | exact IntWalk.u8_in _ (by omega) | exact IntWalk.i64_in _ (by omega) | skip)
      case z5_1o3 =>
        intro vs w hC hS hV
        replace hS : PSt B0 B ge gd w00 w tt hh l bad vP vC vP vC P C := hS
        rw [if_pos (by kernel_rfl)]
        generalize hρ : rho _ _ _ vs = ρ
        have d21 : (vs 2) = .pointer (some ⟨ge, 0, none⟩) := hV 2 (by kernel_rfl)
        have e21 : ρ (.tmp 21) = vs 2 := by rw [← hρ]; kernel_rfl
        rw [d21] at e21; clear d21
        have ef47 : ρ (.func 47) = .func (.func 47) #[] #[] := by rw [← hρ]; rfl
        clear hρ hV
        refine runs_call (f := 47) (args := #[.pointer (some ⟨ge, 0, none⟩)]) (w' := w) ?_ ?_
        · go_simp
        · refine (K1.out w hS.1).mono ?_
          rintro e w5 ⟨rfl, he5⟩
          exact ⟨_, rfl, Nat.le_trans hC he5.2.1.1, (fun b' h1 h2 => he5.2.1.2 b' h2 (GW.out b' h1).2.2.2 (by simp)), rfl, hS.eye he5⟩
      case z5_1o4 =>
        intro vs w t hC ht1 ht2 hS hV
        rw [if_pos (by kernel_rfl)]
        generalize hρ : rho _ _ _ vs = ρ
        have d22 : (vs 3) = .int .u8 b := hV 3 (by kernel_rfl)
        have e22 : ρ (.tmp 22) = vs 3 := by rw [← hρ]; kernel_rfl
        rw [d22] at e22; clear d22
        clear hρ hV
        refine runs_val (v := .slice (some ⟨w.heap.size, 0, none⟩) 1 1) (w' := w.alloc (.cells #[.int .u8 b] 5)) ?_ ⟨below_alloc (Below.refl _ _) _, ⟨w.heap.size, rfl, hC, blk_new _ _⟩⟩
        clear ht1 ht2 hS hC
        go_simp
      case z5_1o5 =>
        intro vs w hC hS hV
        replace hS : PSt B0 B ge gd w00 w tt hh l1 b1 vP vC vP vC P C := hS
        rw [if_pos (by kernel_rfl)]
        generalize hρ : rho _ _ _ vs = ρ
        have d20 : (vs 1) = vP := hV 1 (by kernel_rfl)
        have e20 : ρ (.tmp 20) = vs 1 := by rw [← hρ]; kernel_rfl
        rw [d20] at e20; clear d20
        have d23 : (fun (w : World) (v : Value) => ∃ bl, v = .slice (some ⟨bl, 0, none⟩) 1 1 ∧ wr.heap.size ≤ bl ∧ w.heap[bl]? = some (.cells #[.int .u8 b] 5 (0, 0))) w (vs 4) := hV 4 (by kernel_rfl)
        have e23 : ρ (.tmp 23) = vs 4 := by rw [← hρ]; kernel_rfl
        obtain ⟨bl, hve23, hbl1, hbl2⟩ := d23
        clear hρ hV
        rw [hve23] at e23
        refine runs_append (Kd.int .u8) (Rr := fun x cs => cs = [.int .u8 x]) B 20 23 39 5 (.int .u8 0) 1 rfl Try.underlying39 np_info rfl (by decide) (by decide) vP P [b] (some ⟨bl, 0, none⟩) 1 1 (fun _ => True) (fun _ => False) e20 e23 hS.2.2.1 (C_of_block (k := .u8) hbl2 ⟨rfl, rfl, by decide⟩) (fun _ _ h => h) (fun _ h => h.elim) (fun _ _ => trivial) hS.le (by have := HLN.out; omega) ?_
        intro v1 w1 h1 hg1 hat
        exact ⟨Nat.le_trans hC hg1.size, (fun b' h1 h2 => hg1.block b' h2 (GW.out b' h1).1), trivial, hS.rowP hg1 h1⟩
      case z5_1o6 =>
        intro vs w t hC ht1 ht2 hS hV
        rw [if_pos (by kernel_rfl)]
        generalize hρ : rho _ _ _ vs = ρ
        have e5 : ρ (.tmp 5) = .pointer (some ⟨gd, 0, none⟩) := by rw [← hρ]; kernel_rfl
        clear hρ hV
        refine runs_val (v := .pointer (some ⟨gd, 2, none⟩)) (w' := w) ?_ ⟨Below.refl _ _, rfl⟩
        clear ht1 ht2 hS hC
        go_simp <;> (first | exact IntWalk.u64_in _ (by omega) | exact IntWalk.u32_in _ (by omega) | exact IntWalk.u16_in _ (by omega) | exact IntWalk.u8_in _ (by omega) | exact IntWalk.i64_in _ (by omega) | skip)
      case z5_1o7 =>
        intro vs w hC hS hV
        replace hS : PSt B0 B ge gd w00 w tt hh l1 b1 vP vC (vs 5) vC (P ++ [b]) C := hS
        rw [if_pos (by kernel_rfl)]
        generalize hρ : rho _ _ _ vs = ρ
        have d25 : (vs 6) = .pointer (some ⟨gd, 2, none⟩) := hV 6 (by kernel_rfl)
        have e25 : ρ (.tmp 25) = vs 6 := by rw [← hρ]; kernel_rfl
        rw [d25] at e25; clear d25
        have d24 : (fun (w : World) (v : Value) => True) w (vs 5) := hV 5 (by kernel_rfl)
        have e24 : ρ (.tmp 24) = vs 5 := by rw [← hρ]; kernel_rfl
        clear hρ hV
        have hS2 := hS.setP
        obtain ⟨A5, c5, hs5⟩ := Kd.R_slice hS.2.2.1
        have f0 := blk_frozen (hS.2.1.get (i := 0) rfl) 2
        have c0 := PSt.cellP hS
        refine runs_skip (w' := w.setCell ⟨gd, 2, none⟩ (vs 5)) ?_ ⟨Nat.le_trans hC (by simp [World.setCell]), (fun b' h1 h2 => Below.heap_setCell _ _ _ _ (GW.out b' h1).2.2.1), trivial, ⟨_, hS2⟩⟩
        rw [hs5] at e24
        rw [hs5]
        clear hS hS2 hC d24 hs5
        go_simp
      case z5_1e =>
        intro vs z1 hC hS hV
        replace hS : (fun (w : World) => ∃ u, PSt B0 B ge gd w00 w tt hh l1 b1 u vC u vC (P ++ [b]) C) z1 := hS
        have d19 : (vs 0) = .pointer (some ⟨gd, 2, none⟩) := hV 0 (Nat.le_of_ble_eq_true rfl)
        have d20 : (vs 1) = vP := hV 1 (Nat.le_of_ble_eq_true rfl)
        have d21 : (vs 2) = .pointer (some ⟨ge, 0, none⟩) := hV 2 (Nat.le_of_ble_eq_true rfl)
        have d22 : (vs 3) = .int .u8 b := hV 3 (Nat.le_of_ble_eq_true rfl)
        have d23 : (fun (w : World) (v : Value) => ∃ bl, v = .slice (some ⟨bl, 0, none⟩) 1 1 ∧ wr.heap.size ≤ bl ∧ w.heap[bl]? = some (.cells #[.int .u8 b] 5 (0, 0))) z1 (vs 4) := hV 4 (Nat.le_of_ble_eq_true rfl)
        have d24 : (fun (w : World) (v : Value) => True) z1 (vs 5) := hV 5 (Nat.le_of_ble_eq_true rfl)
        have d25 : (vs 6) = .pointer (some ⟨gd, 2, none⟩) := hV 6 (Nat.le_of_ble_eq_true rfl)
        clear hV
        simp only [putAll]
        rw [d19, d20, d21, d22, d25]
        clear d19 d20 d21 d22 d25
        generalize vs 4 = v23 at *
        generalize vs 5 = v24 at *
        generalize vs 7 = vN7
        clear vs
        simp only [Act.put, List.setIfInBounds_toArray, List.set_cons_zero, List.set_cons_succ]
        obtain ⟨vP', hS⟩ := hS
        have S1 := Aside0.mk hS
        clear hS hC d23 d24 GW S K1
        go_wp2_with fail
        refine (K2.out _ S1.out.1).mono ?_
        rintro e z2 ⟨rfl, he2⟩
        have S2 := Aside0.mk (S1.out.eye he2)
        clear he2 S1 K2
        go_wp2_with fail
        refine (K3.out _ S2.out.1).mono ?_
        rintro e z3 ⟨rfl, he3⟩
        have S3 := Aside0.mk (S2.out.eye he3)
        clear he3 S2 K3
        obtain ⟨x0, hx0⟩ : ∃ x0, wrap32 vv = x0 := ⟨_, rfl⟩
        have HX0 := Aside0.mk hx0
        rw [hx0] at HST
        clear hx0
        have S3a := Aside0.mk (S3.out.below (below_alloc (Below.refl _ _) (.cells #[.int .i32 x0, .int .u32 mk] 30)))
        have HCX := Aside0.mk (C_one_cell2 (x := ⟨x0, mk⟩) (blk_new z3 (.cells #[.int .i32 x0, .int .u32 mk] 30)))
        have HLC : Aside0 ((C.length + 1) * 8 ≤ 140737488355328) := ⟨by have := HLN.out; omega⟩
        have c3' := PSt.cellC S3.out
        have hx0 := HX0.out
        go_wp2_with (at_builtin; go_loud (refine Kd.R_append_rows k30 (Rr := fun x cs => cs = [.int .i32 x.f0, .int .u32 x.f1]) (w0 := z3.alloc (.cells #[.int .i32 x0, .int .u32 mk] 30)) B rfl (.tmp 31) (.tmp 36) 22 30 (.agg #[.int .i32 0, .int .u32 0]) 8 rfl Try.underlying22 cell_full rfl (by decide) (by decide) vC C [⟨x0, mk⟩] (some ⟨z3.heap.size, 0, none⟩) 1 1 (fun _ => True) (fun _ => False) rfl rfl S3a.out.2.2.2.1 HCX.out (fun x cs h => by rw [h]; exact k30_mkM _ _ _ x) (fun _ h => h.elim) (fun _ _ => trivial) (Below.refl _ _) S3a.out.le HLC.out ?_))
        intro v1 z4 hv4 hb4 hg4 _
        have S5 := Aside0.mk (S3a.out.rowC hg4 hv4)
        obtain ⟨A5, c5, hs5⟩ := Kd.R_slice hv4
        subst hs5
        generalize (C ++ [(⟨x0, mk⟩ : S30)]).length = cl5 at *
        clear c3' hx0 hv4 hb4 hg4 S3 S3a HCX HLC HX0
        have c3' := PSt.cellC S5.out
        have f3' := blk_frozen (S5.out.2.1.get (i := 0) rfl) 3
        have S4 : Aside0 (EyP q (i + 1) l3' b3' (P ++ [b]) (C ++ [⟨x0, mk⟩]) ∧ PSt B0 B ge gd w00 (z4.setCell ⟨gd, 3, none⟩ (.slice A5 cl5 c5)) tt hh l3' b3' vP' (.slice A5 cl5 c5) vP' (.slice A5 cl5 c5) (P ++ [b]) (C ++ [⟨x0, mk⟩])) := ⟨HST.out, S5.out.setC⟩
        clear HST S5
        go_wp2_with fail
        go_roundw
        case rel => exact ⟨i + 1, by omega, by go_num, l3', b3', P ++ [b], C ++ [⟨x0, mk⟩], vP', .slice A5 cl5 c5, S4⟩
        case measure => simp [intOf]; omega
    · obtain rfl : i = m := by omega
      have d1 : decide (i < i) = false := decide_eq_false (by omega)
      clear hlt hi
      have hfin := H.out.1
      obtain ⟨hl1, hl2, hl3, hl4, hcase⟩ := hfin
      have hcnt : 9 ≤ q.length → i = cntD q := fun h9 => by have := (HHD.out.2.2.2.1 h9).2.2; simpa using this
      have KD := Aside0.mk (done_any ge B l bad wr H.out.2.1)
      obtain ⟨A1, c1, hv1, lc1, k1⟩ := Kd.R_reads H.out.2.2.2.1
      obtain ⟨A2, c2, hv2, lc2, k2⟩ := Kd.R_reads H.out.2.2.2.2.1
      have KRT := Aside0.mk (right_any tt hh A1 A2 c1 c2 P C wr k1 lc1 k2 lc2 hl4 (by omega))
      have hRP := H.out.2.2.2.1
      have hRC := H.out.2.2.2.2.1
      have hBB := Nat.le_trans (Nat.le_of_lt HGE.out.1) (Nat.le_of_lt HGE.out.2)
      have HOF := Aside0.mk (show OfR B0 wr tt hh P C (.agg #[.int .u32 tt, .int .u32 hh, vP, vC]) from ⟨A1, c1, A2, c2, by rw [hv1, hv2], lc1, lc2, by rw [← hv1]; exact Kd.R_lower hRP hBB, by rw [← hv2]; exact Kd.R_lower hRC hBB⟩)
      have HP := Aside0.mk H.out.2.2.1
      rw [hv1, hv2] at HP HOF
      by_cases hd : bad = true ∨ 0 < l.length
      · rw [if_pos hd] at KD
        have hok : okD q = false := by
          unfold okD
          rw [Bool.and_eq_false_iff]
          left
          rw [decide_eq_false_iff_not]
          rintro ⟨h9, hq9⟩
          have hc := hcnt h9
          rcases hcase with ⟨hb, hl, hle, _⟩ | ⟨hb, hl, hlt⟩
          · rcases hd with h | h
            · rw [hb] at h; cases h
            · rw [hl, List.length_drop] at h
              omega
          · omega
        have HOK := Aside0.mk hok
        clear hcase hcnt hl1 hl2 hl3 hl4 hv1 hv2 lc1 lc2 k1 k2 hRP hRC hBB hd hok H KRT
        go_wp2_with fail
        refine KD.out.mono ?_
        rintro e w2 ⟨rfl, rfl⟩
        clear KD
        have hzd := zero_delta
        go_wp2_with (first | (refine wpList_store_row rfl 41 (.tmp 2) (.tmp 48) rfl B0 #[.int .u32 0, .int .u32 0, .slice none 0 0, .slice none 0 0] rfl rfl 41 _ (HP.out.get (i := 1) rfl) (delta_info _ _ _ _) rfl (by simp [Value.oneCell']) ?_))
        have H9 := Aside0.mk (HP.out.setRow (i := 1) rfl #[.int .u32 0, .int .u32 0, .slice none 0 0, .slice none 0 0])
        refine bodyPost_ret (results_ct rfl _ _ B0 _ #[.int .u32 0, .int .u32 0, .slice none 0 0, .slice none 0 0] (0, 0) _ rfl (H9.out.get (i := 1) rfl) Try.underlying41 rfl (delta_info _ _ _ _)) rfl ?_
        refine ⟨?_, by rw [HB0.out]; exact H9.out.bel⟩
        unfold ParseR
        rw [HOK.out]
        rfl
      · rw [if_neg hd] at KD
        have hgood : bad = false ∧ l = [] := by
          refine ⟨by cases bad; rfl; exact absurd (.inl rfl) hd, ?_⟩
          rcases l with _ | ⟨a, l⟩
          · rfl
          · exact absurd (.inr (by simp)) hd
        obtain ⟨hq9, hPe, hCe⟩ : (9 ≤ q.length ∧ q.length = 9 + 9 * cntD q) ∧ P = pL (q.drop 9) (cntD q) ∧ C = cL (q.drop 9) (cntD q) := by
          rcases hcase with ⟨hb, hl, hle, hPe, hCe⟩ | ⟨hb, hl, hlt⟩
          · have h9 : 9 ≤ q.length := by omega
            have hc := hcnt h9
            have hl0 : (q.drop (9 + 9 * i)).length = 0 := by rw [← hl, hgood.2]; rfl
            rw [List.length_drop] at hl0
            exact ⟨⟨h9, by omega⟩, by rw [← hc]; exact hPe, by rw [← hc]; exact hCe⟩
          · rw [hgood.1] at hb; cases hb
        have hok : okD q = rightB P C.length := by
          unfold okD rightB
          rw [decide_eq_true hq9, hPe, hCe, pL_len, cL_len]
          simp
        have htk := HHD.out.2.2.2.1 hq9.1
        have HOK := Aside0.mk (And.intro hok (And.intro hPe (And.intro hCe (And.intro htk.1 htk.2.1))))
        obtain ⟨β, hβ⟩ : ∃ β, rightB P C.length = β := ⟨_, rfl⟩
        rw [hβ] at KRT HOK
        subst hv1 hv2
        clear hcase hcnt hl1 hl2 hl3 hl4 lc1 lc2 k1 k2 hRP hRC hBB hd hok H hgood hq9 hPe hCe htk hβ
        generalize hpn : P.length = pn at *
        generalize hcn : C.length = cn at *
        have HN := Aside0.mk (And.intro hpn hcn)
        clear hpn hcn
        go_wp2_with fail
        refine KD.out.mono ?_
        rintro e w2 ⟨rfl, rfl⟩
        clear KD
        go_wp2_with (first | (refine wpList_load_row_g 41 (.tmp 5) rfl gd rfl rfl 41 _ (0, 0) _ (HP.out.get (i := 0) rfl) Try.underlying41 rfl (delta_info _ _ _ _) ?_))
        refine KRT.out.mono ?_
        rintro e w3 ⟨rfl, hb3⟩
        have HP3 := Aside0.mk (HP.out.call hb3)
        have HOF3 := Aside0.mk (HOF.out.belowR hb3)
        clear hb3 HP HOF KRT
        have hzd := zero_delta
        cases β with
        | false =>
          go_wp2_with (first | (refine wpList_store_row rfl 41 (.tmp 2) (.tmp 48) rfl B0 #[.int .u32 0, .int .u32 0, .slice none 0 0, .slice none 0 0] rfl rfl 41 _ (HP3.out.get (i := 1) rfl) (delta_info _ _ _ _) rfl (by simp [Value.oneCell']) ?_))
          have H9 := Aside0.mk (HP3.out.setRow (i := 1) rfl #[.int .u32 0, .int .u32 0, .slice none 0 0, .slice none 0 0])
          refine bodyPost_ret (results_ct rfl _ _ B0 _ #[.int .u32 0, .int .u32 0, .slice none 0 0, .slice none 0 0] (0, 0) _ rfl (H9.out.get (i := 1) rfl) Try.underlying41 rfl (delta_info _ _ _ _)) rfl ?_
          refine ⟨?_, by rw [HB0.out]; exact H9.out.bel⟩
          unfold ParseR
          rw [HOK.out.1]
          rfl
        | true =>
          go_wp2_with (first | (refine wpList_load_row_g 41 (.tmp 5) rfl gd rfl rfl 41 _ (0, 0) _ (HP3.out.get (i := 0) rfl) Try.underlying41 rfl (delta_info _ _ _ _) ?_) | (refine wpList_store_row rfl 41 (.tmp 2) (.tmp 49) rfl B0 #[.int .u32 tt, .int .u32 hh, .slice A1 pn c1, .slice A2 cn c2] rfl rfl 41 _ (HP3.out.get (i := 1) rfl) (delta_info _ _ _ _) rfl (by simp [Value.oneCell']) ?_))
          have H9 := Aside0.mk (HP3.out.setRow (i := 1) rfl #[.int .u32 tt, .int .u32 hh, .slice A1 pn c1, .slice A2 cn c2])
          refine bodyPost_ret (results_ct rfl _ _ B0 _ #[.int .u32 tt, .int .u32 hh, .slice A1 pn c1, .slice A2 cn c2] (0, 0) _ rfl (H9.out.get (i := 1) rfl) Try.underlying41 rfl (delta_info _ _ _ _)) rfl ?_
          refine ⟨?_, by rw [HB0.out]; exact H9.out.bel⟩
          unfold ParseR
          rw [HOK.out.1, if_pos rfl, ← HOK.out.2.1, ← HOK.out.2.2.1, ← HOK.out.2.2.2.1, ← HOK.out.2.2.2.2, HB0.out]
          exact ⟨_, rfl, HOF3.out.setRow9 (HP3.out.get (i := 1) rfl) (by decide) (by decide)⟩
end Go.Proofs.Ytkhlalpkkmjfnaa

namespace Go.Proofs.Ytkhlalpkkmjfnaa
open Go.RowKit Go.Proofs.YtkhlalpkkmjfnaaW.PrintWords Go.Proofs.YtkhlalpkkmjfnaaW.PrintLast Go.Proofs.YtkhlalpkkmjfnaaW.PrintMore
attribute [local go_sem] max2_int min2_int max_two min_two max_three min_three max_four min_four   -- for this text's walks alone
set_option linter.unusedVariables false
set_option linter.unusedSimpArgs false

/-! ### hoodwinkref01_Cut: function 27 -/
def hoodwinkref01_Cut.l0 : Nat → Int → List Int → List Int → Int → Int → Option (List Int)
  | 0, _, _, _, _, _ => none
  | k + 1, x1, x5, x8, x9, x10 => if x10 < x9 then (if 0 ≤ x10 then (if x10 < (x8.length : Int) then (if x10 < x1 then (if x5.length < 140737488355328 then (hoodwinkref01_Cut.l0 k x1 (x5 ++ [rd x8 x10]) x8 x9 (wrap64 (x10 + 1))) else (none)) else (hoodwinkref01_Cut.l0 k x1 x5 x8 x9 (wrap64 (x10 + 1)))) else (none)) else (none)) else (some x5)
def hoodwinkref01_Cut.f (k : Nat) (l0 : List Int) (a1 : Int) : Option (List Int) := hoodwinkref01_Cut.l0 k a1 ([] : List Int) l0 (l0.length : Int) 0
theorem hoodwinkref01_Cut.mono_l : ∀ k, (∀ y0 y1 y2 y3 y4, LeO (hoodwinkref01_Cut.l0 k y0 y1 y2 y3 y4) (hoodwinkref01_Cut.l0 (k + 1) y0 y1 y2 y3 y4))
  | 0 => fun _ _ _ _ _ r h => by simp [hoodwinkref01_Cut.l0] at h
  | k + 1 => by
    have ih0 := hoodwinkref01_Cut.mono_l k
    · intro y0 y1 y2 y3 y4
      unfold hoodwinkref01_Cut.l0
      repeat' first
      | (with_reducible exact ih0 _ _ _ _ _)
      | (with_reducible exact LeO.refl _)
      | (with_reducible exact LeO.none _)
      | (with_reducible refine LeO.ite ?_ ?_)
      | (with_reducible refine LeO.bind ?_ (fun _ => ?_))
      | exact ih0 _ _ _ _ _
      | exact LeO.none _
      | refine LeO.ite ?_ ?_
      | refine LeO.bind ?_ (fun _ => ?_)
theorem hoodwinkref01_Cut.mono : ∀ a0 a1 k, LeO (hoodwinkref01_Cut.f k a0 a1) (hoodwinkref01_Cut.f (k + 1) a0 a1) := by
  intro a0 a1 k
  have ih0 := hoodwinkref01_Cut.mono_l k
  unfold hoodwinkref01_Cut.f
  repeat' first
      | (with_reducible exact ih0 _ _ _ _ _)
      | (with_reducible exact LeO.refl _)
      | (with_reducible exact LeO.none _)
      | (with_reducible refine LeO.ite ?_ ?_)
      | (with_reducible refine LeO.bind ?_ (fun _ => ?_))
      | exact ih0 _ _ _ _ _
      | exact LeO.none _
      | refine LeO.ite ?_ ?_
      | refine LeO.bind ?_ (fun _ => ?_)
set_option maxHeartbeats 8000000 in
set_option maxRecDepth 100000 in
theorem hoodwinkref01_Cut.calls (k : Nat) (A0 : Option Addr) (c0 : Nat) (l0 : List Int) (a1 : Int) (r : List Int) (w : World) (hr0 : Kd.C (Kd.int .u8) w A0 l0.length l0) (hc0 : l0.length ≤ c0) (h : hoodwinkref01_Cut.f k l0 a1 = some r) :
    Calls Try.prog 27 #[.slice A0 l0.length c0, .int .i64 a1] w fun e w' => ∃ v0_ : Value, e = .returned (v0_) ∧ Kd.R (Kd.int .u8) 5 w' w.heap.size (fun _ => True) v0_ r ∧ Below w.heap.size w w' := by
  have HR0 := Aside0.mk hr0
  have HC0 := Aside0.mk hc0
  clear hr0 hc0
  have HB := Aside0.mk (Below.refl w.heap.size w)
  have H : (hoodwinkref01_Cut.l0 k a1 ([] : List Int) l0 (l0.length : Int) 0) = some r := h
  clear h
  have H' := Aside0.mk H
  clear H
  go_enter Try.func27, Try.ntmps27
  go_wp2
  go_loopg [5, 10] k (fun kq v5 v10 w' => ∃ (x5_1 : List Int) (x10_1 : Int), v10 = .int .i64 x10_1 ∧ Aside0 (hoodwinkref01_Cut.l0 kq a1 x5_1 l0 (l0.length : Int) x10_1 = some r) ∧ Aside0 (kq ≤ k) ∧ Aside0 (Kd.R (Kd.int .u8) 5 w' w.heap.size (fun _ => True) v5 x5_1) ∧ Aside0 (Below w.heap.size w w'))
  case atStart => exact ⟨(([] : List Int)), (0), (by first | rfl | (simp; done) | (simp [*]; done)), H', ⟨Nat.le_refl _⟩, ⟨by first | exact Kd.R_nil _ _ _ _ _ | exact Kd.N_nil _ _ _ _ _ | exact Kd.V_nil _ _ _ _ _ | exact Kd.Q_nil _ _ _ _ _ | exact Kd.S_nil _ _ _ _ _⟩, ⟨by repeat (first | (with_reducible first | exact HB.out | apply below_alloc | apply pw_below_drewN | apply below_drew1) | exact HB.out)⟩⟩
  case round =>
    clear H'
    try clear c2
    try clear p2
    obtain ⟨x5_1, x10_1, rfl, HA, HK1, HO_5, HB⟩ := hrel
    cases gk with
    | zero => exact absurd HA.out (by simp [hoodwinkref01_Cut.l0])
    | succ k1 =>
      have H := HA.out
      clear HA
      simp only [hoodwinkref01_Cut.l0] at H
      by_cases c3 : x10_1 < (l0.length : Int)
      · rw [if_pos c3] at H
        have c3b0 : decide (x10_1 < (l0.length : Int)) = true := decide_eq_true c3
        clear c3
        by_cases c4 : 0 ≤ x10_1
        · rw [if_pos c4] at H
          have c4b0 : decide (0 ≤ x10_1) = true := decide_eq_true c4
          clear c4
          by_cases c5 : x10_1 < (l0.length : Int)
          · rw [if_pos c5] at H
            have c5b0 : decide (x10_1 < (l0.length : Int)) = true := decide_eq_true c5
            clear c5
            by_cases c6 : x10_1 < a1
            · rw [if_pos c6] at H
              have c6b0 : decide (x10_1 < a1) = true := decide_eq_true c6
              clear c6
              by_cases c7 : x5_1.length < 140737488355328
              · rw [if_pos c7] at H
                have LMc7 := Aside0.mk c7
                clear c7
                obtain ⟨y130, hy130⟩ : ∃ y_ : List Int, y_ = (x5_1 ++ [rd l0 x10_1]) := ⟨_, rfl⟩
                replace H : (hoodwinkref01_Cut.l0 k1 a1 y130 l0 (l0.length : Int) (wrap64 (x10_1 + 1))) = some r := by first | (rw [hy130]; with_reducible exact H) | (have H2_ := (Option.bind_some _ _).symm.trans H; rw [hy130]; with_reducible exact H2_) | (have H2_ := (Option.bind_some _ _).symm.trans H; with_reducible exact H2_) | with_reducible exact H | (rw [hy130]; exact H) | exact H
                have Ny130 := Aside0.mk hy130
                clear hy130
                have H' := Aside0.mk H
                clear H
                have p129 : 0 ≤ (x10_1 : Int) := of_decide_eq_true (by first | (with_reducible assumption) | assumption)
                have q129 : x10_1 < (l0.length : Int) := of_decide_eq_true (by first | (with_reducible assumption) | assumption)
                obtain ⟨ad129, e129, hx129_0⟩ := Kd.at_int HR0.out x10_1 p129 q129
                cases e129
                replace hx129_0 := (HB.out.cell (World.block_lt_of_cell? w _ hx129_0)).trans hx129_0
                replace p129 := eq_true p129
                replace q129 := eq_true q129
                go_wp2_with (first | ((with_reducible refine gate_builtin (b := .append) (xs := #[.tmp 18, .tmp 20]) rfl ?_); at_builtin; refine Kd.R_append (Kd.int .u8) (w0 := w) w.heap.size rfl (.tmp 18) (.tmp 20) 39 5 (.int .u8 0) 1 rfl Try.underlying39 info5 rfl (by decide) (by omega) u5 x5_1 (rd l0 x10_1) [.int .u8 (rd l0 x10_1)] (fun _ => True) (fun _ => False) rfl rfl ?aP (fun _ hk => hk.elim) ?aF ?aO ?aB ?aS ?aL ?_; (case aP => exact rfl); (case aB => exact (by repeat (first | (with_reducible first | exact HB.out | apply below_alloc | apply pw_below_drewN | apply below_drew1) | exact HB.out))); (case aF => exact (fun _ _ => trivial)); (case aO => exact (by (with_reducible repeat (first | apply Kd.R_alloc | apply Kd.R_drewN | apply Kd.R_drew)); exact HO_5.out)); (case aS => exact (below_size (by repeat (first | (with_reducible first | exact HB.out | apply below_alloc | apply pw_below_drewN | apply below_drew1) | exact HB.out)))); (case aL => have := LMc7.out; omega); intro v131 w8 ho hb hg hat; rw [← Ny130.out] at ho; have n0_ := Aside0.mk (hb); have n1_ := Aside0.mk (ho); clear HB; clear HO_5; have HB := n0_; have HO132 := n1_; clear n0_ n1_; clear ho hb hg hat))
                go_roundg k1
                case measure => have := HK1.out; omega
                case rel => exact ⟨(y130), (wrap64 (x10_1 + 1)), (by first | rfl | (simp; done) | (simp [*]; done)), H', ⟨by have := HK1.out; omega⟩, ⟨by (with_reducible repeat (first | apply Kd.R_alloc | apply Kd.R_drewN | apply Kd.R_drew)); exact HO132.out⟩, ⟨by repeat (first | (with_reducible first | exact HB.out | apply below_alloc | apply pw_below_drewN | apply below_drew1) | exact HB.out)⟩⟩
              · rw [if_neg c7] at H
                exact absurd H (by simp)
            · rw [if_neg c6] at H
              have c6b0 : decide (x10_1 < a1) = false := decide_eq_false c6
              clear c6
              have H' := Aside0.mk H
              clear H
              have p129 : 0 ≤ (x10_1 : Int) := of_decide_eq_true (by first | (with_reducible assumption) | assumption)
              have q129 : x10_1 < (l0.length : Int) := of_decide_eq_true (by first | (with_reducible assumption) | assumption)
              obtain ⟨ad129, e129, hx129_0⟩ := Kd.at_int HR0.out x10_1 p129 q129
              cases e129
              replace hx129_0 := (HB.out.cell (World.block_lt_of_cell? w _ hx129_0)).trans hx129_0
              replace p129 := eq_true p129
              replace q129 := eq_true q129
              go_wp2
              go_roundg k1
              case measure => have := HK1.out; omega
              case rel => exact ⟨(x5_1), (wrap64 (x10_1 + 1)), (by first | rfl | (simp; done) | (simp [*]; done)), H', ⟨by have := HK1.out; omega⟩, ⟨by (with_reducible repeat (first | apply Kd.R_alloc | apply Kd.R_drewN | apply Kd.R_drew)); exact HO_5.out⟩, ⟨by repeat (first | (with_reducible first | exact HB.out | apply below_alloc | apply pw_below_drewN | apply below_drew1) | exact HB.out)⟩⟩
          · rw [if_neg c5] at H
            exact absurd H (by simp)
        · rw [if_neg c4] at H
          exact absurd H (by simp)
      · rw [if_neg c3] at H
        have c3b0 : decide (x10_1 < (l0.length : Int)) = false := decide_eq_false c3
        clear c3
        obtain rfl := Option.some.inj H
        go_wp2
        go_ret
        exact ⟨_, by first | rfl | (simp [errW_none, errW_some] <;> rfl) | (simp [*, errW_none, errW_some] <;> rfl), by (with_reducible repeat (first | apply Kd.R_alloc | apply Kd.R_drewN | apply Kd.R_drew)); exact HO_5.out, by repeat (first | (with_reducible first | exact HB.out | apply below_alloc | apply pw_below_drewN | apply below_drew1) | exact HB.out)⟩

/-! ### hoodwinkref07_Right: function 28 -/
def hoodwinkref07_Right.l0 : Nat → Int → List Int → Int → Int → Option (Bool)
  | 0, _, _, _, _ => none
  | k + 1, x3, x14, x15, x16 => if x16 < x15 then (if 0 ≤ x16 then (if x16 < (x14.length : Int) then (if (wrap64 (rd x14 x16)) ≤ x3 then (some false) else (if (rd x14 x16) > 47 then (some false) else (hoodwinkref07_Right.l0 k (wrap64 (rd x14 x16)) x14 x15 (wrap64 (x16 + 1))))) else (none)) else (none)) else (some true)
def hoodwinkref07_Right.f (k : Nat) (a0_0 : Int) (a0_1 : Int) (l0_2 : List Int) (l0_3 : List (S89)) : Option (Bool) := if (l0_2.length : Int) = (l0_3.length : Int) then (hoodwinkref07_Right.l0 k (-1) l0_2 (l0_2.length : Int) 0) else (some false)
theorem hoodwinkref07_Right.mono_l : ∀ k, (∀ y0 y1 y2 y3, LeO (hoodwinkref07_Right.l0 k y0 y1 y2 y3) (hoodwinkref07_Right.l0 (k + 1) y0 y1 y2 y3))
  | 0 => fun _ _ _ _ r h => by simp [hoodwinkref07_Right.l0] at h
  | k + 1 => by
    have ih0 := hoodwinkref07_Right.mono_l k
    · intro y0 y1 y2 y3
      unfold hoodwinkref07_Right.l0
      repeat' first
      | (with_reducible exact ih0 _ _ _ _)
      | (with_reducible exact LeO.refl _)
      | (with_reducible exact LeO.none _)
      | (with_reducible refine LeO.ite ?_ ?_)
      | (with_reducible refine LeO.bind ?_ (fun _ => ?_))
      | exact ih0 _ _ _ _
      | exact LeO.none _
      | refine LeO.ite ?_ ?_
      | refine LeO.bind ?_ (fun _ => ?_)
theorem hoodwinkref07_Right.mono : ∀ a0 a1 a2 a3 k, LeO (hoodwinkref07_Right.f k a0 a1 a2 a3) (hoodwinkref07_Right.f (k + 1) a0 a1 a2 a3) := by
  intro a0 a1 a2 a3 k
  have ih0 := hoodwinkref07_Right.mono_l k
  unfold hoodwinkref07_Right.f
  repeat' first
      | (with_reducible exact ih0 _ _ _ _)
      | (with_reducible exact LeO.refl _)
      | (with_reducible exact LeO.none _)
      | (with_reducible refine LeO.ite ?_ ?_)
      | (with_reducible refine LeO.bind ?_ (fun _ => ?_))
      | exact ih0 _ _ _ _
      | exact LeO.none _
      | refine LeO.ite ?_ ?_
      | refine LeO.bind ?_ (fun _ => ?_)
set_option maxHeartbeats 8000000 in
set_option maxRecDepth 100000 in
theorem hoodwinkref07_Right.calls (k : Nat) (a0_0 : Int) (a0_1 : Int) (A0_2 : Option Addr) (c0_2 : Nat) (l0_2 : List Int) (A0_3 : Option Addr) (c0_3 : Nat) (l0_3 : List (S89)) (r : Bool) (w : World) (hr0_2 : Kd.C (Kd.int .u8) w A0_2 l0_2.length l0_2) (hc0_2 : l0_2.length ≤ c0_2) (hr0_3 : Kd.C k89 w A0_3 l0_3.length l0_3) (hc0_3 : l0_3.length ≤ c0_3) (h : hoodwinkref07_Right.f k a0_0 a0_1 l0_2 l0_3 = some r) :
    Calls Try.prog 28 #[.agg #[.int .u32 a0_0, .int .u32 a0_1, .slice A0_2 l0_2.length c0_2, .slice A0_3 l0_3.length c0_3]] w fun e w' => e = .returned (.bool r) ∧ Below w.heap.size w w' := by
  have hu58 := Try.underlying58
  have HR0_2 := Aside0.mk hr0_2
  have HC0_2 := Aside0.mk hc0_2
  clear hr0_2 hc0_2
  have HR0_3 := Aside0.mk hr0_3
  have HC0_3 := Aside0.mk hc0_3
  clear hr0_3 hc0_3
  have HB := Aside0.mk (Below.refl w.heap.size w)
  have H : (if (l0_2.length : Int) = (l0_3.length : Int) then (hoodwinkref07_Right.l0 k (-1) l0_2 (l0_2.length : Int) 0) else (some false)) = some r := h
  clear h
  by_cases c2 : (l0_2.length : Int) = (l0_3.length : Int)
  · rw [if_pos c2] at H
    have c2b0 : ((l0_2.length : Int) == (l0_3.length : Int)) = true := beq_iff_eq.mpr c2
    have c2b1 : ((l0_2.length : Int) != (l0_3.length : Int)) = false := bne_eq_false_iff_eq.mpr c2
    have c2b2 : (l0_2.length == l0_3.length) = true := by first | simpa using c2 | (simp at c2 ⊢; omega)
    clear c2
    have H' := Aside0.mk H
    clear H
    go_enter Try.func28, Try.ntmps28
    go_wp2_with (first | ((with_reducible refine gate_dst (N := 1) rfl ?_); refine box_event ?hg (N := 1) ?hd (cs := #[.int .u32 a0_0, .int .u32 a0_1, .slice A0_2 l0_2.length c0_2, .slice A0_3 l0_3.length c0_3]) (t := 58) ?hr ?_; (case hd => rfl); (case hg => rfl); (case hr => first | (go_simp; done) | (go_simp; rfl)); intro gb148 hg w3 hbox hb; have n0_ := Aside0.mk (below_step (by repeat (first | (with_reducible first | exact HB.out | apply below_alloc | apply pw_below_drewN | apply below_drew1) | exact HB.out)) hb); have n1_ := Aside0.mk (hbox); have n2_ := Aside0.mk ((by rw [hg]; exact (below_size (by repeat (first | (with_reducible first | exact HB.out | apply below_alloc | apply pw_below_drewN | apply below_drew1) | exact HB.out))) : w.heap.size ≤ gb148)); have n3_ := Aside0.mk ((by rw [hg]; exact (below_size (by repeat (first | (with_reducible first | exact HB.out | apply below_alloc | apply pw_below_drewN | apply below_drew1) | exact HB.out))) : w.heap.size ≤ gb148)); clear HB; have HB := n0_; have BK148 := n1_; have GW148 := n2_; have GE148 := n3_; clear n0_ n1_ n2_ n3_; clear hb hbox hg; have hcz4_0 : w3.cell? ⟨gb148, 0, none⟩ = some (.int .u32 a0_0) := (blk_cell BK148.out 0).trans rfl; have hcz4_1 : w3.cell? ⟨gb148, 1, none⟩ = some (.int .u32 a0_1) := (blk_cell BK148.out 1).trans rfl; have hcz4_2 : w3.cell? ⟨gb148, 2, none⟩ = some (.slice A0_2 l0_2.length c0_2) := (blk_cell BK148.out 2).trans rfl; have hcz4_3 : w3.cell? ⟨gb148, 3, none⟩ = some (.slice A0_3 l0_3.length c0_3) := (blk_cell BK148.out 3).trans rfl; have hfz4_0 := blk_frozen BK148.out 0; have hfz4_1 := blk_frozen BK148.out 1; have hfz4_2 := blk_frozen BK148.out 2; have hfz4_3 := blk_frozen BK148.out 3))
    go_loopg [3, 16] k (fun kq v3 v16 w' => ∃ (x3_1 : Int) (x16_1 : Int), v3 = .int .i64 x3_1 ∧ v16 = .int .i64 x16_1 ∧ Aside0 (hoodwinkref07_Right.l0 kq x3_1 l0_2 (l0_2.length : Int) x16_1 = some r) ∧ Aside0 (kq ≤ k) ∧ Aside0 (w'.heap[gb148]? = some (.cells #[.int .u32 a0_0, .int .u32 a0_1, (.slice A0_2 l0_2.length c0_2), (.slice A0_3 l0_3.length c0_3)] 58 (0, 0))) ∧ Aside0 (Below w.heap.size w w'))
    case atStart => exact ⟨((-1)), (0), (by first | rfl | (simp; done) | (simp [*]; done)), (by first | rfl | (simp; done) | (simp [*]; done)), H', ⟨Nat.le_refl _⟩, ⟨by (with_reducible repeat (first | refine blk_drewN ?_ _ | refine blk_drew ?_ | refine blk_alloc ?_ _)); exact BK148.out⟩, ⟨by repeat (first | (with_reducible first | exact HB.out | apply below_alloc | apply pw_below_drewN | apply below_drew1 | refine below_set ?_ GE148.out) | exact HB.out)⟩⟩
    case round =>
      clear H'
      try clear c2
      try clear c2b0
      try clear c2b1
      try clear c2b2
      try clear p2
      try clear hcz4_0
      try clear hcz4_1
      try clear hcz4_2
      try clear hcz4_3
      try clear hfz4_0
      try clear hfz4_1
      try clear hfz4_2
      try clear hfz4_3
      obtain ⟨x3_1, x16_1, rfl, rfl, HA, HK1, BK148, HB⟩ := hrel
      cases gk with
      | zero => exact absurd HA.out (by simp [hoodwinkref07_Right.l0])
      | succ k1 =>
        have H := HA.out
        clear HA
        simp only [hoodwinkref07_Right.l0] at H
        by_cases c5 : x16_1 < (l0_2.length : Int)
        · rw [if_pos c5] at H
          have c5b0 : decide (x16_1 < (l0_2.length : Int)) = true := decide_eq_true c5
          clear c5
          by_cases c6 : 0 ≤ x16_1
          · rw [if_pos c6] at H
            have c6b0 : decide (0 ≤ x16_1) = true := decide_eq_true c6
            clear c6
            by_cases c7 : x16_1 < (l0_2.length : Int)
            · rw [if_pos c7] at H
              have c7b0 : decide (x16_1 < (l0_2.length : Int)) = true := decide_eq_true c7
              clear c7
              by_cases c8 : (wrap64 (rd l0_2 x16_1)) ≤ x3_1
              · rw [if_pos c8] at H
                have c8b0 : decide ((wrap64 (rd l0_2 x16_1)) ≤ x3_1) = true := decide_eq_true c8
                clear c8
                obtain rfl := Option.some.inj H
                have p149 : 0 ≤ (x16_1 : Int) := of_decide_eq_true (by first | (with_reducible assumption) | assumption)
                have q149 : x16_1 < (l0_2.length : Int) := of_decide_eq_true (by first | (with_reducible assumption) | assumption)
                obtain ⟨ad149, e149, hx149_0⟩ := Kd.at_int HR0_2.out x16_1 p149 q149
                cases e149
                replace hx149_0 := (HB.out.cell (World.block_lt_of_cell? w _ hx149_0)).trans hx149_0
                replace p149 := eq_true p149
                replace q149 := eq_true q149
                go_wp2
                go_ret
                exact ⟨by first | rfl | (simp [errW_none, errW_some] <;> rfl) | (simp [*, errW_none, errW_some] <;> rfl), by repeat (first | (with_reducible first | exact HB.out | apply below_alloc | apply pw_below_drewN | apply below_drew1 | refine below_set ?_ GE148.out) | exact HB.out)⟩
              · rw [if_neg c8] at H
                have c8b0 : decide ((wrap64 (rd l0_2 x16_1)) ≤ x3_1) = false := decide_eq_false c8
                clear c8
                by_cases c9 : (rd l0_2 x16_1) > 47
                · rw [if_pos c9] at H
                  have c9b0 : decide (47 < (rd l0_2 x16_1)) = true := decide_eq_true c9
                  clear c9
                  obtain rfl := Option.some.inj H
                  have p149 : 0 ≤ (x16_1 : Int) := of_decide_eq_true (by first | (with_reducible assumption) | assumption)
                  have q149 : x16_1 < (l0_2.length : Int) := of_decide_eq_true (by first | (with_reducible assumption) | assumption)
                  obtain ⟨ad149, e149, hx149_0⟩ := Kd.at_int HR0_2.out x16_1 p149 q149
                  cases e149
                  replace hx149_0 := (HB.out.cell (World.block_lt_of_cell? w _ hx149_0)).trans hx149_0
                  replace p149 := eq_true p149
                  replace q149 := eq_true q149
                  go_wp2
                  go_ret
                  exact ⟨by first | rfl | (simp [errW_none, errW_some] <;> rfl) | (simp [*, errW_none, errW_some] <;> rfl), by repeat (first | (with_reducible first | exact HB.out | apply below_alloc | apply pw_below_drewN | apply below_drew1 | refine below_set ?_ GE148.out) | exact HB.out)⟩
                · rw [if_neg c9] at H
                  have c9b0 : decide (47 < (rd l0_2 x16_1)) = false := decide_eq_false c9
                  clear c9
                  have H' := Aside0.mk H
                  clear H
                  have p149 : 0 ≤ (x16_1 : Int) := of_decide_eq_true (by first | (with_reducible assumption) | assumption)
                  have q149 : x16_1 < (l0_2.length : Int) := of_decide_eq_true (by first | (with_reducible assumption) | assumption)
                  obtain ⟨ad149, e149, hx149_0⟩ := Kd.at_int HR0_2.out x16_1 p149 q149
                  cases e149
                  replace hx149_0 := (HB.out.cell (World.block_lt_of_cell? w _ hx149_0)).trans hx149_0
                  replace p149 := eq_true p149
                  replace q149 := eq_true q149
                  go_wp2
                  go_roundg k1
                  case measure => have := HK1.out; omega
                  case rel => exact ⟨(wrap64 (rd l0_2 x16_1)), (wrap64 (x16_1 + 1)), (by first | rfl | (simp; done) | (simp [*]; done)), (by first | rfl | (simp; done) | (simp [*]; done)), H', ⟨by have := HK1.out; omega⟩, ⟨by (with_reducible repeat (first | refine blk_drewN ?_ _ | refine blk_drew ?_ | refine blk_alloc ?_ _)); exact BK148.out⟩, ⟨by repeat (first | (with_reducible first | exact HB.out | apply below_alloc | apply pw_below_drewN | apply below_drew1 | refine below_set ?_ GE148.out) | exact HB.out)⟩⟩
            · rw [if_neg c7] at H
              exact absurd H (by simp)
          · rw [if_neg c6] at H
            exact absurd H (by simp)
        · rw [if_neg c5] at H
          have c5b0 : decide (x16_1 < (l0_2.length : Int)) = false := decide_eq_false c5
          clear c5
          obtain rfl := Option.some.inj H
          go_wp2
          go_ret
          exact ⟨by first | rfl | (simp [errW_none, errW_some] <;> rfl) | (simp [*, errW_none, errW_some] <;> rfl), by repeat (first | (with_reducible first | exact HB.out | apply below_alloc | apply pw_below_drewN | apply below_drew1 | refine below_set ?_ GE148.out) | exact HB.out)⟩
  · rw [if_neg c2] at H
    have c2b0 : ((l0_2.length : Int) == (l0_3.length : Int)) = false := beq_eq_false_iff_ne.mpr c2
    have c2b1 : ((l0_2.length : Int) != (l0_3.length : Int)) = true := bne_iff_ne.mpr c2
    have c2b2 : (l0_2.length == l0_3.length) = false := by first | simpa using c2 | (simp at c2 ⊢; omega)
    obtain rfl := Option.some.inj H
    go_enter Try.func28, Try.ntmps28
    go_wp2_with (first | ((with_reducible refine gate_dst (N := 1) rfl ?_); refine box_event ?hg (N := 1) ?hd (cs := #[.int .u32 a0_0, .int .u32 a0_1, .slice A0_2 l0_2.length c0_2, .slice A0_3 l0_3.length c0_3]) (t := 58) ?hr ?_; (case hd => rfl); (case hg => rfl); (case hr => first | (go_simp; done) | (go_simp; rfl)); intro gb148 hg w10 hbox hb; have n0_ := Aside0.mk (below_step (by repeat (first | (with_reducible first | exact HB.out | apply below_alloc | apply pw_below_drewN | apply below_drew1) | exact HB.out)) hb); have n1_ := Aside0.mk (hbox); have n2_ := Aside0.mk ((by rw [hg]; exact (below_size (by repeat (first | (with_reducible first | exact HB.out | apply below_alloc | apply pw_below_drewN | apply below_drew1) | exact HB.out))) : w.heap.size ≤ gb148)); have n3_ := Aside0.mk ((by rw [hg]; exact (below_size (by repeat (first | (with_reducible first | exact HB.out | apply below_alloc | apply pw_below_drewN | apply below_drew1) | exact HB.out))) : w.heap.size ≤ gb148)); clear HB; have HB := n0_; have BK148 := n1_; have GW148 := n2_; have GE148 := n3_; clear n0_ n1_ n2_ n3_; clear hb hbox hg; have hcz11_0 : w10.cell? ⟨gb148, 0, none⟩ = some (.int .u32 a0_0) := (blk_cell BK148.out 0).trans rfl; have hcz11_1 : w10.cell? ⟨gb148, 1, none⟩ = some (.int .u32 a0_1) := (blk_cell BK148.out 1).trans rfl; have hcz11_2 : w10.cell? ⟨gb148, 2, none⟩ = some (.slice A0_2 l0_2.length c0_2) := (blk_cell BK148.out 2).trans rfl; have hcz11_3 : w10.cell? ⟨gb148, 3, none⟩ = some (.slice A0_3 l0_3.length c0_3) := (blk_cell BK148.out 3).trans rfl; have hfz11_0 := blk_frozen BK148.out 0; have hfz11_1 := blk_frozen BK148.out 1; have hfz11_2 := blk_frozen BK148.out 2; have hfz11_3 := blk_frozen BK148.out 3))
    go_ret
    exact ⟨by first | rfl | (simp [errW_none, errW_some] <;> rfl) | (simp [*, errW_none, errW_some] <;> rfl), by repeat (first | (with_reducible first | exact HB.out | apply below_alloc | apply pw_below_drewN | apply below_drew1 | refine below_set ?_ GE148.out) | exact HB.out)⟩

/-! ### bytes_Equal: function 51 -/
def bytes_Equal.f (l0 : List Int) (l1 : List Int) : Option (Bool) := some ((strOfNums l0).toList == (strOfNums l1).toList)
set_option maxHeartbeats 8000000 in
set_option maxRecDepth 100000 in
theorem bytes_Equal.calls (A0 : Option Addr) (c0 : Nat) (l0 : List Int) (A1 : Option Addr) (c1 : Nat) (l1 : List Int) (r : Bool) (w : World) (hr0 : Kd.C (Kd.int .u8) w A0 l0.length l0) (hc0 : l0.length ≤ c0) (hr1 : Kd.C (Kd.int .u8) w A1 l1.length l1) (hc1 : l1.length ≤ c1) (h : bytes_Equal.f l0 l1 = some r) :
    Calls Try.prog 51 #[.slice A0 l0.length c0, .slice A1 l1.length c1] w fun e w' => e = .returned (.bool r) ∧ Drawn0 w w' := by
  have HR0 := Aside0.mk hr0
  have HC0 := Aside0.mk hc0
  clear hr0 hc0
  have HR1 := Aside0.mk hr1
  have HC1 := Aside0.mk hc1
  clear hr1 hc1
  have H : (some ((strOfNums l0).toList == (strOfNums l1).toList)) = some r := h
  clear h
  obtain rfl := Option.some.inj H
  have hcv3 := Kd.C_string (P := Try.prog) (A := A0) (c := c0) Try.underlying39 Try.underlying5 Try.underlying9 HR0.out
  have hcv4 := Kd.C_string (P := Try.prog) (A := A1) (c := c1) Try.underlying39 Try.underlying5 Try.underlying9 HR1.out
  go_enter Try.func51, Try.ntmps51
  go_wp2
  go_ret
  exact ⟨by first | rfl | (simp; done) | (simp [*]; done), by repeat (first | exact Drawn0.refl _ | apply Drawn0.step)⟩

/-! ### hoodwinkref01_Value: function 53 -/
def hoodwinkref01_Value.l0 : Nat → List Int → Int → Int → Option (Int)
  | 0, _, _, _ => none
  | k + 1, x0, x3, x4 => if x4 ≥ 0 then (if 0 ≤ x4 then (if x4 < (x0.length : Int) then (hoodwinkref01_Value.l0 k x0 (IntKind.u64.wrap ((IntKind.u64.wrap (256 * x3)) + (IntKind.u64.wrap (rd x0 x4)))) (wrap64 (x4 - 1))) else (none)) else (none)) else (some x3)
def hoodwinkref01_Value.f (k : Nat) (l0 : List Int) : Option (Int) := hoodwinkref01_Value.l0 k l0 0 (wrap64 ((l0.length : Int) - 1))
theorem hoodwinkref01_Value.mono_l : ∀ k, (∀ y0 y1 y2, LeO (hoodwinkref01_Value.l0 k y0 y1 y2) (hoodwinkref01_Value.l0 (k + 1) y0 y1 y2))
  | 0 => fun _ _ _ r h => by simp [hoodwinkref01_Value.l0] at h
  | k + 1 => by
    have ih0 := hoodwinkref01_Value.mono_l k
    · intro y0 y1 y2
      unfold hoodwinkref01_Value.l0
      repeat' first
      | (with_reducible exact ih0 _ _ _)
      | (with_reducible exact LeO.refl _)
      | (with_reducible exact LeO.none _)
      | (with_reducible refine LeO.ite ?_ ?_)
      | (with_reducible refine LeO.bind ?_ (fun _ => ?_))
      | exact ih0 _ _ _
      | exact LeO.none _
      | refine LeO.ite ?_ ?_
      | refine LeO.bind ?_ (fun _ => ?_)
theorem hoodwinkref01_Value.mono : ∀ a0 k, LeO (hoodwinkref01_Value.f k a0) (hoodwinkref01_Value.f (k + 1) a0) := by
  intro a0 k
  have ih0 := hoodwinkref01_Value.mono_l k
  unfold hoodwinkref01_Value.f
  repeat' first
      | (with_reducible exact ih0 _ _ _)
      | (with_reducible exact LeO.refl _)
      | (with_reducible exact LeO.none _)
      | (with_reducible refine LeO.ite ?_ ?_)
      | (with_reducible refine LeO.bind ?_ (fun _ => ?_))
      | exact ih0 _ _ _
      | exact LeO.none _
      | refine LeO.ite ?_ ?_
      | refine LeO.bind ?_ (fun _ => ?_)
set_option maxHeartbeats 8000000 in
set_option maxRecDepth 100000 in
theorem hoodwinkref01_Value.calls (k : Nat) (A0 : Option Addr) (c0 : Nat) (l0 : List Int) (r : Int) (w : World) (hr0 : Kd.C (Kd.int .u8) w A0 l0.length l0) (hc0 : l0.length ≤ c0) (h : hoodwinkref01_Value.f k l0 = some r) :
    Calls Try.prog 53 #[.slice A0 l0.length c0] w fun e w' => e = .returned (.int .u64 r) ∧ Drawn0 w w' := by
  have HR0 := Aside0.mk hr0
  have HC0 := Aside0.mk hc0
  clear hr0 hc0
  have H : (hoodwinkref01_Value.l0 k l0 0 (wrap64 ((l0.length : Int) - 1))) = some r := h
  clear h
  have H' := Aside0.mk H
  clear H
  go_enter Try.func53, Try.ntmps53
  go_wp2
  go_loopg [3, 4] k (fun kq v3 v4 w' => ∃ (x3_1 : Int) (x4_1 : Int), v3 = .int .u64 x3_1 ∧ v4 = .int .i64 x4_1 ∧ Aside0 (hoodwinkref01_Value.l0 kq l0 x3_1 x4_1 = some r) ∧ Aside0 (kq ≤ k) ∧ Drawn0 w w')
  case atStart => exact ⟨(0), (wrap64 ((l0.length : Int) - 1)), (by first | rfl | (simp; done) | (simp [*]; done)), (by first | rfl | (simp; done) | (simp [*]; done)), H', ⟨Nat.le_refl _⟩, by repeat (first | exact Drawn0.refl _ | apply Drawn0.step)⟩
  case round =>
    clear H'
    obtain ⟨x3_1, x4_1, rfl, rfl, HA, HK1, ⟨m1, rfl⟩⟩ := hrel
    cases gk with
    | zero => exact absurd HA.out (by simp [hoodwinkref01_Value.l0])
    | succ k1 =>
      have H := HA.out
      clear HA
      simp only [hoodwinkref01_Value.l0] at H
      by_cases c2 : x4_1 ≥ 0
      · rw [if_pos c2] at H
        have c2b0 : decide (0 ≤ x4_1) = true := decide_eq_true c2
        clear c2
        by_cases c3 : 0 ≤ x4_1
        · rw [if_pos c3] at H
          have c3b0 : decide (0 ≤ x4_1) = true := decide_eq_true c3
          clear c3
          by_cases c4 : x4_1 < (l0.length : Int)
          · rw [if_pos c4] at H
            have c4b0 : decide (x4_1 < (l0.length : Int)) = true := decide_eq_true c4
            clear c4
            have H' := Aside0.mk H
            clear H
            have p209 : 0 ≤ (x4_1 : Int) := of_decide_eq_true (by first | (with_reducible assumption) | assumption)
            have q209 : x4_1 < (l0.length : Int) := of_decide_eq_true (by first | (with_reducible assumption) | assumption)
            obtain ⟨ad209, e209, hx209_0⟩ := Kd.at_int HR0.out x4_1 p209 q209
            cases e209
            replace p209 := eq_true p209
            replace q209 := eq_true q209
            go_wp2
            go_roundg k1
            case measure => have := HK1.out; omega
            case rel => exact ⟨(IntKind.u64.wrap ((IntKind.u64.wrap (256 * x3_1)) + (IntKind.u64.wrap (rd l0 x4_1)))), (wrap64 (x4_1 - 1)), (by first | rfl | (simp; done) | (simp [*]; done)), (by first | rfl | (simp; done) | (simp [*]; done)), H', ⟨by have := HK1.out; omega⟩, by repeat (first | exact Drawn0.refl _ | apply Drawn0.step)⟩
          · rw [if_neg c4] at H
            exact absurd H (by simp)
        · rw [if_neg c3] at H
          exact absurd H (by simp)
      · rw [if_neg c2] at H
        have c2b0 : decide (0 ≤ x4_1) = false := decide_eq_false c2
        clear c2
        obtain rfl := Option.some.inj H
        go_wp2
        go_ret
        exact ⟨by first | rfl | (simp; done) | (simp [*]; done), by repeat (first | exact Drawn0.refl _ | apply Drawn0.step)⟩

end Go.Proofs.Ytkhlalpkkmjfnaa

namespace Go.Proofs.Ytkhlalpkkmjfnaa
open Go.RowKit Go.Proofs.YtkhlalpkkmjfnaaW.PrintWords Go.Proofs.YtkhlalpkkmjfnaaW.PrintLast Go.Proofs.YtkhlalpkkmjfnaaW.PrintMore
set_option linter.unusedVariables false
set_option linter.unusedSimpArgs false

theorem rright_l0 (P : List Int) (hP : Bytes P) (hl : P.length < 4611686018427387904) : ∀ (d k i : Nat), i + d = P.length → d < k →
    hoodwinkref07_Right.l0 k (prevP P i) P (P.length : Int) (i : Int) = some (risB (prevP P i) (P.drop i))
  | 0, k + 1, i, h, _ => by
    unfold hoodwinkref07_Right.l0
    rw [if_neg (by omega), List.drop_of_length_le (by omega)]
    unfold risB
    rfl
  | d + 1, k + 1, i, h, hk => by
    have hi : i < P.length := by omega
    have hx := hP _ (List.getElem_mem hi)
    unfold hoodwinkref07_Right.l0
    rw [if_pos (by omega), if_pos (by omega), if_pos (by omega), rd_getElem hi, w64 (n := P[i]) (by omega), List.drop_eq_getElem_cons hi, risB_cons]
    have ih := rright_l0 P hP hl d k (i + 1) (by omega) (by omega)
    have hn : wrap64 ((i : Int) + 1) = ((i + 1 : Nat) : Int) := next64 (by omega)
    have hpi : prevP P (i + 1) = P[i] := by
      unfold prevP
      rw [if_neg (by omega), Nat.add_sub_cancel, List.getD_eq_getElem?_getD, List.getElem?_eq_getElem hi]; rfl
    rw [hpi] at ih
    by_cases h1 : P[i] ≤ prevP P i
    · rw [if_pos h1, decide_eq_false (p := prevP P i < P[i]) (by omega)]; simp
    · rw [if_neg h1, decide_eq_true (p := prevP P i < P[i]) (by omega)]
      by_cases h2 : P[i] > 47
      · rw [if_pos h2, decide_eq_false (p := P[i] < 48) (by omega)]; simp
      · rw [if_neg h2, decide_eq_true (p := P[i] < 48) (by omega), hn, ih]; simp
theorem rright_any (tk hs : Int) (P : List Int) (R : List S89) (v : Value) (w : World) (hv : DrC w tk hs P R v) (hP : Bytes P) (hl : P.length < 4611686018427387904) :
    Calls Try.prog 28 #[v] w fun e w' => e = .returned (.bool (rightB P R.length)) ∧ Below w.heap.size w w' := by
  obtain ⟨A, c, A2, c2, rfl, h2, h3, h4, h5⟩ := hv
  refine hoodwinkref07_Right.calls (P.length + 1) tk hs A c P A2 c2 R (rightB P R.length) w h4 h2 h5 h3 ?_
  have := rright_l0 P hP hl P.length (P.length + 1) 0 (by omega) (by omega)
  unfold hoodwinkref07_Right.f rightB
  rw [List.drop_zero] at this
  by_cases e : P.length = R.length
  · rw [if_pos (by omega)]
    have e2 : (P.length == R.length) = true := by simp [e]
    rw [e2, Bool.and_true]
    exact this
  · rw [if_neg (by omega)]
    have e2 : (P.length == R.length) = false := by simp [e]
    rw [e2, Bool.and_false]
theorem C_of_three {α : Type} {d : Kd α} {e : Nat} {w : World} {g : Nat} {t : TypeId} {fr : Nat × Nat} {A B D : Option Addr} {n m p c c' c'' : Nat} {x y z : List α} (hg : w.heap[g]? = some (.cells #[.slice A n c, .slice B m c', .slice D p c''] t fr))
    (hx : d.C w A n x) (hc : n ≤ c) (hy : d.C w B m y) (hc' : m ≤ c') (hz : d.C w D p z) (hc'' : p ≤ c'') : (Kd.slice e d).C w (some ⟨g, 0, none⟩) 3 [x, y, z] := by
  obtain rfl := hx.1
  obtain rfl := hy.1
  obtain rfl := hz.1
  refine C_of_rows hg rfl (by omega) fun j p hj => ?_
  match j with
  | 0 => obtain rfl : x = p := by simpa using hj
         exact ⟨A, c, rfl, hc, hx⟩
  | 1 => obtain rfl : y = p := by simpa using hj
         exact ⟨B, c', rfl, hc', hy⟩
  | 2 => obtain rfl : z = p := by simpa using hj
         exact ⟨D, c'', rfl, hc'', hz⟩
  | j + 3 => simp at hj
/-- 'xs[i:j]' -/
theorem cut_lh {P : Program} (k kl kh : IntKind) (t e bytes : Nat) (ht : P.underlying t = some (.slice e)) (hinfo : (P.info? e).map (fun i => (i.zero, i.size, i.bytes)) = some (some (.int k 0), 1, bytes)) (A : Option Addr) (n c i j : Nat) (hij : i ≤ j) (hj : j ≤ n) (hc : n ≤ c) :
    ∃ A' : Option Addr, (∀ W : World, (Instr.slice t (.slice A n c) (some (.int kl (i : Int))) (some (.int kh (j : Int))) none).run P W = .ok (.slice A' (j - i) (c - i)) W) ∧
      ∀ (w : World) (xs : List Int), (Kd.int k).C w A n xs → (Kd.int k).C w A' (j - i) ((xs.take j).drop i) := by
  obtain ⟨i0, hi, hzz⟩ := Option.map_eq_some_iff.1 hinfo
  simp only [Prod.mk.injEq] at hzz
  have hel : P.elem t = e := by simp [Program.elem, ht]
  have hu : P.underlying t = some (.slice (P.elem t)) := by rw [hel]; exact ht
  refine ⟨if c = i then A else A.map (·.add i), fun W => ?_, fun w xs h => ?_⟩
  · rw [run_slice_lh W t A n c hu kl kh (i : Int) (j : Int) (Int.natCast_nonneg _) (by omega) (by omega), hel]
    simp [sizeOf, typeInfo, hi, hzz.2.1, sliced, Result.andThen]
  · obtain rfl := h.1
    have := Kd.C_mid h hij hj hc
    have e1 : ((xs.take j).drop i).length = j - i := by rw [List.length_drop, List.length_take]; omega
    rw [e1] at this
    have e2 : (Kd.int k).sz = 1 := rfl
    simpa [e2] using this
end Go.Proofs.Ytkhlalpkkmjfnaa

namespace Go.Proofs.Ytkhlalpkkmjfnaa
open Go.RowKit Go.Proofs.YtkhlalpkkmjfnaaW.PrintWords Go.Proofs.YtkhlalpkkmjfnaaW.PrintLast Go.Proofs.YtkhlalpkkmjfnaaW.PrintMore
set_option linter.unusedVariables false
set_option linter.unusedSimpArgs false

theorem runs_slice {P : Program} {o : Oper} {ρ : Operand → Value} {w : World} {R : Value → World → Prop} (t : TypeId) (x : Operand) (lo hi mx : Option Operand) (ho : o.op = .slice t x lo hi mx) {e : TypeId} (ht : P.underlying t = some (.slice e)) {v : Value}
    (h : (Instr.slice t (ρ x) (lo.map ρ) (hi.map ρ) (mx.map ρ)).run P w = .ok v w) (hR : R v w) : runs P o ρ w R := by
  have hel : P.elem t = e := by simp [Program.elem, ht]
  refine runs_val (v := v) (w' := w) ?_ hR
  unfold execOp
  rw [ho]
  simp only []
  rw [Sem.run_bind, run_sliceAt_slice w t (ρ x) (lo.map ρ) (hi.map ρ) (mx.map ρ) (by rw [hel]; exact ht), h]
  rfl
theorem toR_f (L : List S30) {i : Nat} (h : i < L.length) : (L.map toR)[i]'(by simpa using h) = toR L[i] := by simp
set_option maxRecDepth 100000 in
set_option maxHeartbeats 8000000 in
theorem rbytes7_any (tk hs : Nat) (P : List Int) (C : List S30) (v : Value) (w : World) (hv : DrC w tk hs P (C.map toR) v) (hr : rightB P C.length = true) (htk : tk < 4294967296) (hhs : hs < 4294967296) (hU : ∀ x ∈ C, U32 x.f1) :
    Calls Try.prog 31 #[v] w fun e w' => ∃ v', e = .returned v' ∧ BvC w' (dBytes tk hs P C) v' ∧ Below w.heap.size w w' := by
  obtain ⟨A, c, A2, c2, rfl, hc, hc2, hp, hC⟩ := hv
  obtain ⟨hr1, hr2⟩ : risB (-1) P = true ∧ P.length = C.length := by
    unfold rightB at hr
    simp only [Bool.and_eq_true, beq_iff_eq] at hr
    exact hr
  obtain ⟨q1, q2, q3⟩ := risB_le (by omega) (by omega) hr1
  have hCl := hC.1
  obtain ⟨m, hm⟩ : ∃ m, C.length = m := ⟨_, rfl⟩
  obtain ⟨n, hn⟩ : ∃ n, P.length = n := ⟨_, rfl⟩
  have HPC : Aside0 (P.length = n ∧ C.length = m ∧ n = m ∧ m ≤ 48) := ⟨hn, hm, by omega, by omega⟩
  rw [List.length_map, hm] at hC hc2
  rw [hn] at hp hc
  rw [List.length_map, hm, hn]
  have HTK := Aside0.mk htk
  have HHS := Aside0.mk hhs
  have HU := Aside0.mk hU
  have HB := Aside0.mk q2
  have HCC := Aside0.mk (And.intro hc hc2)
  have HF : Aside0 (∀ z, Below w.heap.size w z → (Kd.int .u8).C z A n P ∧ k89.C z A2 m (C.map toR)) := ⟨fun z hb => ⟨Kd.C_below hp hb, Kd.C_below hC hb⟩⟩
  have H0 := Aside0.mk ((Hp.start w).alloc (.cells #[.int .u32 tk, .int .u32 hs, .slice A n c, .slice A2 m c2] 58))
  clear hp hC hc hc2 hr hr1 hr2 q1 q2 q3 htk hhs hU hCl hn hm
  go_enter Try.func31, Try.ntmps31
  go_wp2_with fail
  obtain ⟨gd, hgd⟩ : ∃ gd, w.heap.size = gd := ⟨_, rfl⟩
  rw [hgd] at H0 HF
  rw [hgd]
  have HGD := Aside0.mk hgd
  have HBG : Aside0 (Below gd w (w.alloc (.cells #[.int .u32 tk, .int .u32 hs, .slice A n c, .slice A2 m c2] 58))) := ⟨H0.out.bel⟩
  have HG0 := Aside0.mk (H0.out.get (i := 0) rfl)
  have GD : Aside0 (gd < (w.alloc (.cells #[.int .u32 tk, .int .u32 hs, .slice A n c, .slice A2 m c2] 58)).heap.size) := ⟨H0.out.lt (i := 0) rfl⟩
  have IX : Aside0 (IntKind.u8.wrap (n : Int) = ((n % 256 : Nat) : Int)) := ⟨by rw [IntWalk.u8_in _ (by have := HPC.out; omega)]; have := HPC.out; omega⟩
  clear hgd H0
  generalize hV : w.alloc (.cells #[.int .u32 tk, .int .u32 hs, .slice A n c, .slice A2 m c2] 58) = W at *
  clear hV
  obtain ⟨gw, hgw⟩ : ∃ gw, W.heap.size = gw := ⟨_, rfl⟩
  rw [hgw] at GD
  have HGW := Aside0.mk hgw
  clear hgw
  obtain ⟨y8, hy8⟩ : ∃ y8 : Nat, n % 256 = y8 := ⟨_, rfl⟩
  rw [hy8] at IX
  have HY8 := Aside0.mk hy8
  clear hy8
  refine region_grown (W := W)
    [fun (w : World) (v : Value) => v = .pointer (some ⟨gd, 0, none⟩),
     fun (w : World) (v : Value) => v = .int .u32 tk,
     fun (w : World) (v : Value) => v = .int .u64 tk,
     fun (w : World) (v : Value) => ∃ A c, v = .slice A 4 c ∧ 4 ≤ c ∧ (Kd.int .u8).C w A 4 (lowN tk 4),
     fun (w : World) (v : Value) => v = .pointer (some ⟨gd, 1, none⟩),
     fun (w : World) (v : Value) => v = .int .u32 hs,
     fun (w : World) (v : Value) => v = .int .u64 hs,
     fun (w : World) (v : Value) => ∃ A c, v = .slice A 4 c ∧ 4 ≤ c ∧ (Kd.int .u8).C w A 4 (lowN hs 4),
     fun (w : World) (v : Value) => v = .pointer (some ⟨gd, 2, none⟩),
     fun (w : World) (v : Value) => v = .slice A n c,
     fun (w : World) (v : Value) => v = .int .i64 n,
     fun (w : World) (v : Value) => v = .int .u8 (y8 : Int),
     fun (w : World) (v : Value) => ∃ A, v = .slice A 1 1 ∧ (Kd.int .u8).C w A 1 [(y8 : Int)],
     fun (w : World) (v : Value) => ∃ A, v = .slice A 3 3 ∧ (Kd.slice 5 (Kd.int .u8)).C w A 3 [lowN tk 4, lowN hs 4, [(y8 : Int)]],
     fun (w : World) (v : Value) => BvC w (lowN tk 4 ++ lowN hs 4 ++ [(y8 : Int)]) v,
     fun (w : World) (v : Value) => BvC w (lowN tk 4 ++ lowN hs 4 ++ [(y8 : Int)]) v]
    (fun j =>  none)
    [(0, some 6), (1, some 7), (2, some 8), (3, some 9), (4, some 10), (5, some 11), (6, some 12), (7, some 13), (8, some 14), (9, some 15), (10, some 16), (11, some 17), (12, some 18), (13, some 19), (14, some 20), (15, some 3)]
    []
    (by kernel_rfl) (by kernel_rfl) (by kernel_rfl) (by kernel_rfl) ?r1_1g ?r1_1s ⟨?r1_1o0, ?r1_1o1, ?r1_1o2, ?r1_1o3, ?r1_1o4, ?r1_1o5, ?r1_1o6, ?r1_1o7, ?r1_1o8, ?r1_1o9, ?r1_1o10, ?r1_1o11, ?r1_1o12, ?r1_1o13, ?r1_1o14, ?r1_1o15, trivial⟩ ?r1_1e
  case r1_1g =>
    intro j hj; cases hj
  case r1_1s =>
    refine ⟨(fun w w' v hb h => h), (fun w w' v hb h => h), (fun w w' v hb h => h), (fun w w' v hb h => let ⟨A, c, h1, h2, h3⟩ := h; ⟨A, c, h1, h2, Kd.C_below h3 hb⟩), (fun w w' v hb h => h), (fun w w' v hb h => h), (fun w w' v hb h => h), (fun w w' v hb h => let ⟨A, c, h1, h2, h3⟩ := h; ⟨A, c, h1, h2, Kd.C_below h3 hb⟩), (fun w w' v hb h => h), (fun w w' v hb h => h), (fun w w' v hb h => h), (fun w w' v hb h => h), (fun w w' v hb h => let ⟨A, h1, h2⟩ := h; ⟨A, h1, Kd.C_below h2 hb⟩), (fun w w' v hb h => let ⟨A, h1, h2⟩ := h; ⟨A, h1, Kd.C_below h2 hb⟩), (fun w w' v hb h => h.below hb), (fun w w' v hb h => h.below hb), trivial⟩
  case r1_1o0 =>
    intro vs w hb hV
    rw [if_pos (by kernel_rfl)]
    generalize hρ : rho _ _ _ vs = ρ
    have e1 : ρ (.tmp 1) = .pointer (some ⟨gd, 0, none⟩) := by rw [← hρ]; kernel_rfl
    clear hρ hV
    refine runs_val (v := .pointer (some ⟨gd, 0, none⟩)) (w' := w) ?_ ⟨Below.refl _ _, rfl⟩
    go_simp <;> (first | exact IntWalk.u64_in _ (by omega) | exact IntWalk.u32_in _ (by omega) | exact IntWalk.u16_in _ (by omega) | exact IntWalk.u8_in _ (by omega) | exact IntWalk.i64_in _ (by omega) | skip)
  case r1_1o1 =>
    intro vs w hb hV
    rw [if_pos (by kernel_rfl)]
    generalize hρ : rho _ _ _ vs = ρ
    have d6 : (vs 0) = .pointer (some ⟨gd, 0, none⟩) := hV 0 (by kernel_rfl)
    have e6 : ρ (.tmp 6) = vs 0 := by rw [← hρ]; kernel_rfl
    rw [d6] at e6; clear d6
    clear hρ hV
    have c0 := pw_cell_below hb (blk_cell HG0.out 0)
    refine runs_val (v := .int .u32 tk) (w' := w) ?_ ⟨Below.refl _ _, rfl⟩
    go_simp
  case r1_1o2 =>
    intro vs w hb hV
    rw [if_pos (by kernel_rfl)]
    generalize hρ : rho _ _ _ vs = ρ
    have d7 : (vs 1) = .int .u32 tk := hV 1 (by kernel_rfl)
    have e7 : ρ (.tmp 7) = vs 1 := by rw [← hρ]; kernel_rfl
    rw [d7] at e7; clear d7
    clear hρ hV
    refine runs_val (v := .int .u64 tk) (w' := w) ?_ ⟨Below.refl _ _, rfl⟩
    go_simp
    exact IntWalk.u64_in _ (by have := HTK.out; omega)
  case r1_1o3 =>
    intro vs w hb hV
    rw [if_pos (by kernel_rfl)]
    generalize hρ : rho _ _ _ vs = ρ
    have d8 : (vs 2) = .int .u64 tk := hV 2 (by kernel_rfl)
    have e8 : ρ (.tmp 8) = vs 2 := by rw [← hρ]; kernel_rfl
    rw [d8] at e8; clear d8
    have ef49 : ρ (.func 49) = .func (.func 49) #[] #[] := by rw [← hρ]; rfl
    have econ : ∀ v : Value, ρ (.const v) = v := fun v => by rw [← hρ]; rfl
    clear hρ hV
    refine runs_call (f := 49) (args := #[.int .u64 tk, .int .i64 4]) (w' := w) ?_ ?_
    · go_simp
    · refine (low_any tk 4 w (by have := HTK.out; omega) (by omega)).mono ?_
      rintro e w5 ⟨v, rfl, hv, hb5⟩
      obtain ⟨A1, c1, e1, e2, e3⟩ := Kd.R_reads hv
      rw [lowN_length] at e1 e2 e3
      exact ⟨_, rfl, hb5, A1, c1, e1, e2, e3⟩
  case r1_1o4 =>
    intro vs w hb hV
    rw [if_pos (by kernel_rfl)]
    generalize hρ : rho _ _ _ vs = ρ
    have e1 : ρ (.tmp 1) = .pointer (some ⟨gd, 0, none⟩) := by rw [← hρ]; kernel_rfl
    clear hρ hV
    refine runs_val (v := .pointer (some ⟨gd, 1, none⟩)) (w' := w) ?_ ⟨Below.refl _ _, rfl⟩
    go_simp <;> (first | exact IntWalk.u64_in _ (by omega) | exact IntWalk.u32_in _ (by omega) | exact IntWalk.u16_in _ (by omega) | exact IntWalk.u8_in _ (by omega) | exact IntWalk.i64_in _ (by omega) | skip)
  case r1_1o5 =>
    intro vs w hb hV
    rw [if_pos (by kernel_rfl)]
    generalize hρ : rho _ _ _ vs = ρ
    have d10 : (vs 4) = .pointer (some ⟨gd, 1, none⟩) := hV 4 (by kernel_rfl)
    have e10 : ρ (.tmp 10) = vs 4 := by rw [← hρ]; kernel_rfl
    rw [d10] at e10; clear d10
    clear hρ hV
    have c0 := pw_cell_below hb (blk_cell HG0.out 1)
    refine runs_val (v := .int .u32 hs) (w' := w) ?_ ⟨Below.refl _ _, rfl⟩
    go_simp
  case r1_1o6 =>
    intro vs w hb hV
    rw [if_pos (by kernel_rfl)]
    generalize hρ : rho _ _ _ vs = ρ
    have d11 : (vs 5) = .int .u32 hs := hV 5 (by kernel_rfl)
    have e11 : ρ (.tmp 11) = vs 5 := by rw [← hρ]; kernel_rfl
    rw [d11] at e11; clear d11
    clear hρ hV
    refine runs_val (v := .int .u64 hs) (w' := w) ?_ ⟨Below.refl _ _, rfl⟩
    go_simp
    exact IntWalk.u64_in _ (by have := HHS.out; omega)
  case r1_1o7 =>
    intro vs w hb hV
    rw [if_pos (by kernel_rfl)]
    generalize hρ : rho _ _ _ vs = ρ
    have d12 : (vs 6) = .int .u64 hs := hV 6 (by kernel_rfl)
    have e12 : ρ (.tmp 12) = vs 6 := by rw [← hρ]; kernel_rfl
    rw [d12] at e12; clear d12
    have ef49 : ρ (.func 49) = .func (.func 49) #[] #[] := by rw [← hρ]; rfl
    have econ : ∀ v : Value, ρ (.const v) = v := fun v => by rw [← hρ]; rfl
    clear hρ hV
    refine runs_call (f := 49) (args := #[.int .u64 hs, .int .i64 4]) (w' := w) ?_ ?_
    · go_simp
    · refine (low_any hs 4 w (by have := HHS.out; omega) (by omega)).mono ?_
      rintro e w5 ⟨v, rfl, hv, hb5⟩
      obtain ⟨A1, c1, e1, e2, e3⟩ := Kd.R_reads hv
      rw [lowN_length] at e1 e2 e3
      exact ⟨_, rfl, hb5, A1, c1, e1, e2, e3⟩
  case r1_1o8 =>
    intro vs w hb hV
    rw [if_pos (by kernel_rfl)]
    generalize hρ : rho _ _ _ vs = ρ
    have e1 : ρ (.tmp 1) = .pointer (some ⟨gd, 0, none⟩) := by rw [← hρ]; kernel_rfl
    clear hρ hV
    refine runs_val (v := .pointer (some ⟨gd, 2, none⟩)) (w' := w) ?_ ⟨Below.refl _ _, rfl⟩
    go_simp <;> (first | exact IntWalk.u64_in _ (by omega) | exact IntWalk.u32_in _ (by omega) | exact IntWalk.u16_in _ (by omega) | exact IntWalk.u8_in _ (by omega) | exact IntWalk.i64_in _ (by omega) | skip)
  case r1_1o9 =>
    intro vs w hb hV
    rw [if_pos (by kernel_rfl)]
    generalize hρ : rho _ _ _ vs = ρ
    have d14 : (vs 8) = .pointer (some ⟨gd, 2, none⟩) := hV 8 (by kernel_rfl)
    have e14 : ρ (.tmp 14) = vs 8 := by rw [← hρ]; kernel_rfl
    rw [d14] at e14; clear d14
    clear hρ hV
    have c0 := pw_cell_below hb (blk_cell HG0.out 2)
    refine runs_val (v := .slice A n c) (w' := w) ?_ ⟨Below.refl _ _, rfl⟩
    go_simp
  case r1_1o10 =>
    intro vs w hb hV
    rw [if_pos (by kernel_rfl)]
    generalize hρ : rho _ _ _ vs = ρ
    have d15 : (vs 9) = .slice A n c := hV 9 (by kernel_rfl)
    have e15 : ρ (.tmp 15) = vs 9 := by rw [← hρ]; kernel_rfl
    rw [d15] at e15; clear d15
    clear hρ hV
    refine runs_val (v := .int .i64 n) (w' := w) ?_ ⟨Below.refl _ _, rfl⟩
    go_simp <;> (first | exact IntWalk.u64_in _ (by omega) | exact IntWalk.u32_in _ (by omega) | exact IntWalk.u16_in _ (by omega) | exact IntWalk.u8_in _ (by omega) | exact IntWalk.i64_in _ (by omega) | skip)
  case r1_1o11 =>
    intro vs w hb hV
    rw [if_pos (by kernel_rfl)]
    generalize hρ : rho _ _ _ vs = ρ
    have d16 : (vs 10) = .int .i64 n := hV 10 (by kernel_rfl)
    have e16 : ρ (.tmp 16) = vs 10 := by rw [← hρ]; kernel_rfl
    rw [d16] at e16; clear d16
    clear hρ hV
    have ix := IX.out
    refine runs_val (v := .int .u8 (y8 : Int)) (w' := w) ?_ ⟨Below.refl _ _, rfl⟩
    rw [← ix]
    clear ix
    go_simp
  case r1_1o12 =>
    intro vs w hb hV
    rw [if_pos (by kernel_rfl)]
    generalize hρ : rho _ _ _ vs = ρ
    have d17 : (vs 11) = .int .u8 (y8 : Int) := hV 11 (by kernel_rfl)
    have e17 : ρ (.tmp 17) = vs 11 := by rw [← hρ]; kernel_rfl
    rw [d17] at e17; clear d17
    clear hρ hV
    refine runs_val (v := .slice (some ⟨w.heap.size, 0, none⟩) 1 1) (w' := w.alloc (.cells #[.int .u8 (y8 : Int)] 5)) ?_ ⟨below_alloc (Below.refl _ _) _, _, rfl, C_of_block (heap_alloc_new _ _) ⟨rfl, rfl, by omega⟩⟩
    go_simp
  case r1_1o13 =>
    intro vs w hb hV
    rw [if_pos (by kernel_rfl)]
    generalize hρ : rho _ _ _ vs = ρ
    have d9 : (fun (w : World) (v : Value) => ∃ A c, v = .slice A 4 c ∧ 4 ≤ c ∧ (Kd.int .u8).C w A 4 (lowN tk 4)) w (vs 3) := hV 3 (by kernel_rfl)
    have e9 : ρ (.tmp 9) = vs 3 := by rw [← hρ]; kernel_rfl
    obtain ⟨B1, b1, h1, hb1, hC1⟩ := d9
    have d13 : (fun (w : World) (v : Value) => ∃ A c, v = .slice A 4 c ∧ 4 ≤ c ∧ (Kd.int .u8).C w A 4 (lowN hs 4)) w (vs 7) := hV 7 (by kernel_rfl)
    have e13 : ρ (.tmp 13) = vs 7 := by rw [← hρ]; kernel_rfl
    obtain ⟨B2, b2, h2, hb3, hC2⟩ := d13
    have d18 : (fun (w : World) (v : Value) => ∃ A, v = .slice A 1 1 ∧ (Kd.int .u8).C w A 1 [(y8 : Int)]) w (vs 12) := hV 12 (by kernel_rfl)
    have e18 : ρ (.tmp 18) = vs 12 := by rw [← hρ]; kernel_rfl
    obtain ⟨B3, h3, hC3⟩ := d18
    clear hρ hV
    rw [h1] at e9
    rw [h2] at e13
    rw [h3] at e18
    refine runs_val (v := .slice (some ⟨w.heap.size, 0, none⟩) 3 3) (w' := w.alloc (.cells #[.slice B1 4 b1, .slice B2 4 b2, .slice B3 1 1] 39)) ?_ ⟨below_alloc (Below.refl _ _) _, _, rfl, C_of_three (heap_alloc_new _ _) (Kd.C_alloc hC1 _) hb1 (Kd.C_alloc hC2 _) hb3 (Kd.C_alloc hC3 _) (by omega)⟩
    go_simp
  case r1_1o14 =>
    intro vs w hb hV
    rw [if_pos (by kernel_rfl)]
    generalize hρ : rho _ _ _ vs = ρ
    have d19 : (fun (w : World) (v : Value) => ∃ A, v = .slice A 3 3 ∧ (Kd.slice 5 (Kd.int .u8)).C w A 3 [lowN tk 4, lowN hs 4, [(y8 : Int)]]) w (vs 13) := hV 13 (by kernel_rfl)
    have e19 : ρ (.tmp 19) = vs 13 := by rw [← hρ]; kernel_rfl
    obtain ⟨B4, h4, hC4⟩ := d19
    have ef29 : ρ (.func 29) = .func (.func 29) #[] #[] := by rw [← hρ]; rfl
    clear hρ hV
    rw [h4] at e19
    refine runs_call (f := 29) (args := #[.slice B4 3 3]) (w' := w) ?_ ?_
    · go_simp
    · refine (join_any B4 3 3 _ w hC4 (by omega) (by simp [lowN_length])).mono ?_
      rintro e w5 ⟨v, rfl, hv, hb5⟩
      have he : [lowN tk 4, lowN hs 4, [(y8 : Int)]].flatten = lowN tk 4 ++ lowN hs 4 ++ [(y8 : Int)] := by simp
      rw [he] at hv
      exact ⟨_, rfl, hb5, BvC.of_R hv⟩
  case r1_1o15 =>
    intro vs w hb hV
    rw [if_pos (by kernel_rfl)]
    generalize hρ : rho _ _ _ vs = ρ
    have d20 : (fun (w : World) (v : Value) => BvC w (lowN tk 4 ++ lowN hs 4 ++ [(y8 : Int)]) v) w (vs 14) := hV 14 (by kernel_rfl)
    have e20 : ρ (.tmp 20) = vs 14 := by rw [← hρ]; kernel_rfl
    clear hρ hV
    refine runs_val (v := vs 14) (w' := w) ?_ ⟨Below.refl _ _, d20⟩
    go_simp
  case r1_1e =>
    intro vs V2 hb2 hV
    have d6 : (vs 0) = .pointer (some ⟨gd, 0, none⟩) := hV 0 (Nat.le_of_ble_eq_true rfl)
    have d7 : (vs 1) = .int .u32 tk := hV 1 (Nat.le_of_ble_eq_true rfl)
    have d8 : (vs 2) = .int .u64 tk := hV 2 (Nat.le_of_ble_eq_true rfl)
    have d9 : (fun (w : World) (v : Value) => ∃ A c, v = .slice A 4 c ∧ 4 ≤ c ∧ (Kd.int .u8).C w A 4 (lowN tk 4)) V2 (vs 3) := hV 3 (Nat.le_of_ble_eq_true rfl)
    have d10 : (vs 4) = .pointer (some ⟨gd, 1, none⟩) := hV 4 (Nat.le_of_ble_eq_true rfl)
    have d11 : (vs 5) = .int .u32 hs := hV 5 (Nat.le_of_ble_eq_true rfl)
    have d12 : (vs 6) = .int .u64 hs := hV 6 (Nat.le_of_ble_eq_true rfl)
    have d13 : (fun (w : World) (v : Value) => ∃ A c, v = .slice A 4 c ∧ 4 ≤ c ∧ (Kd.int .u8).C w A 4 (lowN hs 4)) V2 (vs 7) := hV 7 (Nat.le_of_ble_eq_true rfl)
    have d14 : (vs 8) = .pointer (some ⟨gd, 2, none⟩) := hV 8 (Nat.le_of_ble_eq_true rfl)
    have d15 : (vs 9) = .slice A n c := hV 9 (Nat.le_of_ble_eq_true rfl)
    have d16 : (vs 10) = .int .i64 n := hV 10 (Nat.le_of_ble_eq_true rfl)
    have d17 : (vs 11) = .int .u8 (y8 : Int) := hV 11 (Nat.le_of_ble_eq_true rfl)
    have d18 : (fun (w : World) (v : Value) => ∃ A, v = .slice A 1 1 ∧ (Kd.int .u8).C w A 1 [(y8 : Int)]) V2 (vs 12) := hV 12 (Nat.le_of_ble_eq_true rfl)
    have d19 : (fun (w : World) (v : Value) => ∃ A, v = .slice A 3 3 ∧ (Kd.slice 5 (Kd.int .u8)).C w A 3 [lowN tk 4, lowN hs 4, [(y8 : Int)]]) V2 (vs 13) := hV 13 (Nat.le_of_ble_eq_true rfl)
    have d20 : (fun (w : World) (v : Value) => BvC w (lowN tk 4 ++ lowN hs 4 ++ [(y8 : Int)]) v) V2 (vs 14) := hV 14 (Nat.le_of_ble_eq_true rfl)
    have d3 : (fun (w : World) (v : Value) => BvC w (lowN tk 4 ++ lowN hs 4 ++ [(y8 : Int)]) v) V2 (vs 15) := hV 15 (Nat.le_of_ble_eq_true rfl)
    clear hV
    simp only [putAll]
    rw [d6, d7, d8, d10, d11, d12, d14, d15, d16, d17]
    clear d6 d7 d8 d10 d11 d12 d14 d15 d16 d17
    generalize vs 3 = v9 at *
    generalize vs 7 = v13 at *
    generalize vs 12 = v18 at *
    generalize vs 13 = v19 at *
    generalize vs 14 = v20 at *
    generalize vs 15 = v3 at *
    clear vs
    simp only [Act.put, List.setIfInBounds_toArray, List.set_cons_zero, List.set_cons_succ]
    clear d9 d13 d18 d19 d20
    have HH : Aside0 (dHead tk hs n = lowN tk 4 ++ lowN hs 4 ++ [(y8 : Int)]) := ⟨by unfold dHead; rw [HY8.out]⟩
    have HQ : Aside0 (BvC V2 (dHead tk hs n ++ dRows (P.take 0) (C.take 0)) v3 ∧ Below gd w V2 ∧ gd < V2.heap.size ∧ V2.heap[gd]? = some (.cells #[.int .u32 tk, .int .u32 hs, .slice A n c, .slice A2 m c2] 58 (0, 0))) := ⟨by
      refine ⟨?_, HBG.out.trans (hb2.mono (by have := GD.out; have := HGW.out; omega)), by have := GD.out; have := HGW.out; have := hb2.size; omega, blk_below HG0.out hb2⟩
      rw [HH.out]
      simpa [dRows] using d3⟩
    clear d3 hb2 HBG HG0 GD HH HY8 IX HGW
    have c3 := blk_cell HQ.out.2.2.2 3
    go_wp2_with fail
    clear c3
    go_loopw [3, 24] (fun v3 v24 wr => ∃ i : Nat, i ≤ m ∧ v24 = .int .i64 i ∧ Aside0 (BvC wr (dHead tk hs n ++ dRows (P.take i) (C.take i)) v3 ∧ Below gd w wr ∧ gd < wr.heap.size ∧ wr.heap[gd]? = some (.cells #[.int .u32 tk, .int .u32 hs, .slice A n c, .slice A2 m c2] 58 (0, 0)))) (fun _ v24 _ => m - (intOf v24).toNat)
    case atStart => exact ⟨0, by omega, rfl, HQ⟩
    case round =>
      clear HQ
      obtain ⟨i, hi, rfl, H⟩ := hrel
      by_cases hlt : i < m
      · have hd1 : decide (i < m) = true := decide_eq_true hlt
        have hiP : i < P.length := by rw [HPC.out.1, HPC.out.2.2.1]; exact hlt
        have hiC : i < C.length := by rw [HPC.out.2.1]; exact hlt
        obtain ⟨f1, f2⟩ := HF.out wr H.out.2.1
        obtain ⟨adc, hA2, q0, q1⟩ := cell_at52 f2 (j := i) (by rw [List.length_map]; exact hiC)
        rw [toR_f C hiC] at q0 q1
        have HROW := Aside0.mk (dRows_succ hiP hiC)
        have hin : i + 1 ≤ n := by have := HPC.out; omega
        obtain ⟨Ap, lh1, lh2⟩ := cut_lh (P := Try.prog) .u8 .i64 .i64 39 5 1 Try.underlying39 np_info A n c i (i + 1) (Nat.le_succ _) hin HCC.out.1
        have LH1 := Aside0.mk lh1
        have e11 : i + 1 - i = 1 := by omega
        have epi : (P.take (i + 1)).drop i = [P[i]] := by
          rw [take_snoc hiP, List.drop_append_of_le_length (by rw [List.length_take]; omega), List.drop_of_length_le (by rw [List.length_take]; omega)]; rfl
        have LH2 : Aside0 (∀ z, Below gd w z → (Kd.int .u8).C z Ap 1 [P[i]]) := ⟨fun z hz => by have := lh2 z P (HF.out z hz).1; rw [epi, e11] at this; exact this⟩
        have HY := HU.out _ (List.getElem_mem hiC)
        subst hA2
        have NX : Aside0 (IntKind.i64.wrap ((i : Int) + 1) = ((i + 1 : Nat) : Int)) := ⟨by rw [IntWalk.i64_in _ (by have := HPC.out; omega)]; omega⟩
        obtain ⟨pi, hpi⟩ : ∃ pi, P[i] = pi := ⟨_, rfl⟩
        obtain ⟨x, hx⟩ : ∃ x, C[i] = x := ⟨_, rfl⟩
        rw [hpi] at HROW LH2
        rw [hx] at q0 q1 HROW HY
        have q0' : wr.cell? (adc.add (i * 2)) = some (.int .i32 x.f0) := q0
        have q1' : wr.cell? ⟨(adc.add (i * 2)).block, (adc.add (i * 2)).off + 1, none⟩ = some (.int .u32 x.f1) := q1
        obtain ⟨y0, hy0⟩ : ∃ y0 : Nat, x.f1 = (y0 : Int) := ⟨x.f1.toNat, by unfold U32 at HY; omega⟩
        obtain ⟨x0, hx0⟩ : ∃ x0 : Nat, x.f0 % 4294967296 = (x0 : Int) := ⟨(x.f0 % 4294967296).toNat, by omega⟩
        obtain ⟨z0, hz0⟩ : ∃ z0 : Int, x.f0 = z0 := ⟨_, rfl⟩
        have hcb : cellB true x = cellN x0 y0 := by unfold cellB cellN; rw [if_pos rfl, hx0, hy0]; simp
        rw [hcb] at HROW
        rw [hz0] at q0' hx0
        rw [hy0] at q1' HY
        have HXW : Aside0 (z0 % 4294967296 = (x0 : Int) ∧ x0 < 4294967296 ∧ y0 < 4294967296 ∧ IntKind.u64.wrap (y0 : Int) = (y0 : Int)) := ⟨by
          have h1 : y0 < 4294967296 := by unfold U32 at HY; omega
          exact ⟨hx0, by omega, h1, IntWalk.u64_in _ (by omega)⟩⟩
        have HLEN : Aside0 ((dHead tk hs n ++ dRows (P.take i) (C.take i)).length ≤ 10000) := ⟨by
          have h1 := dRows_len (P.take i) (C.take i)
          have h2 : (P.take i).length ≤ 48 := by rw [List.length_take]; have := HPC.out; omega
          simp only [List.length_append, dHead, lowN_length, List.length_cons, List.length_nil]
          omega⟩
        have him : (i : Int) < m := by omega
        have hi0 : (0 : Int) ≤ i := by omega
        clear hpi hx hcb hx0 hz0 hy0 HY f1 f2 q0 q1 lh1 lh2 e11 epi
        obtain ⟨W0, hW0⟩ : ∃ W0, dHead tk hs n ++ dRows (P.take i) (C.take i) = W0 := ⟨_, rfl⟩
        rw [hW0] at H HLEN
        have HW0 := Aside0.mk hW0
        clear hW0
        go_wp2_with fail
        have HQ : Aside0 (BvC (wr.alloc (.cells #[.int .i32 z0, .int .u32 y0] 89)) W0 u3) := ⟨H.out.1.below (below_alloc (Below.refl _ _) _)⟩
        have HB0 : Aside0 (Below gd w (wr.alloc (.cells #[.int .i32 z0, .int .u32 y0] 89))) := ⟨H.out.2.1.trans (below_alloc (Below.refl _ _) _ |>.mono (Nat.le_of_lt H.out.2.2.1))⟩
        have GC0 := Aside0.mk (blk_new wr (.cells #[.int .i32 z0, .int .u32 y0] 89))
        have GD0 : Aside0 ((wr.alloc (.cells #[.int .i32 z0, .int .u32 y0] 89)).heap[gd]? = some (.cells #[.int .u32 tk, .int .u32 hs, .slice A n c, .slice (some adc) m c2] 58 (0, 0))) := ⟨blk_below H.out.2.2.2 (below_alloc (Below.refl _ _) _)⟩
        have GSZ : Aside0 (gd < (wr.alloc (.cells #[.int .i32 z0, .int .u32 y0] 89)).heap.size) := ⟨by have := H.out.2.2.1; simp; omega⟩
        generalize wr.alloc (.cells #[.int .i32 z0, .int .u32 y0] 89) = z1 at *
        obtain ⟨gc, hgc⟩ : ∃ gc, wr.heap.size = gc := ⟨_, rfl⟩
        rw [hgc] at GC0
        rw [hgc]
        clear H hgc q0' q1'
        obtain ⟨Ao, co, e3, hco, hO⟩ := HQ.out
        obtain ⟨lo, hlo⟩ : ∃ lo, W0.length = lo := ⟨_, rfl⟩
        rw [hlo] at e3 hco hO HLEN
        subst e3
        have HLO := Aside0.mk hlo
        have HO := Aside0.mk hO
        have HCO := Aside0.mk hco
        clear hO hco HQ hlo
        refine region_grown (W := z1)
          [fun (w : World) (v : Value) => v = .slice Ao lo co,
           fun (w : World) (v : Value) => v = .pointer (some ⟨gd, 2, none⟩),
           fun (w : World) (v : Value) => v = .slice A n c,
           fun (w : World) (v : Value) => v = .int .i64 i,
           fun (w : World) (v : Value) => v = .int .i64 i,
           fun (w : World) (v : Value) => v = .int .i64 ((i + 1 : Nat) : Int),
           fun (w : World) (v : Value) => v = .slice Ap (i + 1 - i) (c - i),
           fun (w : World) (v : Value) => v = .agg #[.int .i32 z0, .int .u32 y0],
           fun (w : World) (v : Value) => ∃ A c, v = .slice A 8 c ∧ 8 ≤ c ∧ (Kd.int .u8).C w A 8 (cellN x0 y0),
           fun (w : World) (v : Value) => ∃ A, v = .slice A 3 3 ∧ (Kd.slice 5 (Kd.int .u8)).C w A 3 [W0, [pi], cellN x0 y0],
           fun (w : World) (v : Value) => BvC w (W0 ++ (pi :: cellN x0 y0)) v,
           fun (w : World) (v : Value) => BvC w (W0 ++ (pi :: cellN x0 y0)) v]
          (fun j =>  none)
          [(0, some 29), (1, some 30), (2, some 31), (3, some 32), (4, some 33), (5, some 34), (6, some 35), (7, some 36), (8, some 37), (9, some 38), (10, some 39), (11, some 3)]
          []
          (by kernel_rfl) (by kernel_rfl) (by kernel_rfl) (by kernel_rfl) ?r5_2g ?r5_2s ⟨?r5_2o0, ?r5_2o1, ?r5_2o2, ?r5_2o3, ?r5_2o4, ?r5_2o5, ?r5_2o6, ?r5_2o7, ?r5_2o8, ?r5_2o9, ?r5_2o10, ?r5_2o11, trivial⟩ ?r5_2e
        case r5_2g =>
          intro j hj; cases hj
        case r5_2s =>
          refine ⟨(fun w w' v hb h => h), (fun w w' v hb h => h), (fun w w' v hb h => h), (fun w w' v hb h => h), (fun w w' v hb h => h), (fun w w' v hb h => h), (fun w w' v hb h => h), (fun w w' v hb h => h), (fun w w' v hb h => let ⟨A, c, h1, h2, h3⟩ := h; ⟨A, c, h1, h2, Kd.C_below h3 hb⟩), (fun w w' v hb h => let ⟨A, h1, h2⟩ := h; ⟨A, h1, Kd.C_below h2 hb⟩), (fun w w' v hb h => h.below hb), (fun w w' v hb h => h.below hb), trivial⟩
        case r5_2o0 =>
          intro vs w hb hV
          rw [if_pos (by kernel_rfl)]
          generalize hρ : rho _ _ _ vs = ρ
          have e3 : ρ (.tmp 3) = .slice Ao lo co := by rw [← hρ]; kernel_rfl
          clear hρ hV
          refine runs_val (v := .slice Ao lo co) (w' := w) ?_ ⟨Below.refl _ _, rfl⟩
          go_simp <;> (first | exact IntWalk.u64_in _ (by omega) | exact IntWalk.u32_in _ (by omega) | exact IntWalk.u16_in _ (by omega) | exact IntWalk.u8_in _ (by omega) | exact IntWalk.i64_in _ (by omega) | skip)
        case r5_2o1 =>
          intro vs w hb hV
          rw [if_pos (by kernel_rfl)]
          generalize hρ : rho _ _ _ vs = ρ
          have e1 : ρ (.tmp 1) = .pointer (some ⟨gd, 0, none⟩) := by rw [← hρ]; kernel_rfl
          clear hρ hV
          refine runs_val (v := .pointer (some ⟨gd, 2, none⟩)) (w' := w) ?_ ⟨Below.refl _ _, rfl⟩
          go_simp <;> (first | exact IntWalk.u64_in _ (by omega) | exact IntWalk.u32_in _ (by omega) | exact IntWalk.u16_in _ (by omega) | exact IntWalk.u8_in _ (by omega) | exact IntWalk.i64_in _ (by omega) | skip)
        case r5_2o2 =>
          intro vs w hb hV
          rw [if_pos (by kernel_rfl)]
          generalize hρ : rho _ _ _ vs = ρ
          have d30 : (vs 1) = .pointer (some ⟨gd, 2, none⟩) := hV 1 (by kernel_rfl)
          have e30 : ρ (.tmp 30) = vs 1 := by rw [← hρ]; kernel_rfl
          rw [d30] at e30; clear d30
          clear hρ hV
          have c0 := pw_cell_below hb (blk_cell GD0.out 2)
          refine runs_val (v := .slice A n c) (w' := w) ?_ ⟨Below.refl _ _, rfl⟩
          go_simp
        case r5_2o3 =>
          intro vs w hb hV
          rw [if_pos (by kernel_rfl)]
          generalize hρ : rho _ _ _ vs = ρ
          have e4 : ρ (.tmp 4) = .int .i64 i := by rw [← hρ]; kernel_rfl
          clear hρ hV
          refine runs_val (v := .int .i64 i) (w' := w) ?_ ⟨Below.refl _ _, rfl⟩
          go_simp <;> (first | exact IntWalk.u64_in _ (by omega) | exact IntWalk.u32_in _ (by omega) | exact IntWalk.u16_in _ (by omega) | exact IntWalk.u8_in _ (by omega) | exact IntWalk.i64_in _ (by omega) | skip)
        case r5_2o4 =>
          intro vs w hb hV
          rw [if_pos (by kernel_rfl)]
          generalize hρ : rho _ _ _ vs = ρ
          have e4 : ρ (.tmp 4) = .int .i64 i := by rw [← hρ]; kernel_rfl
          clear hρ hV
          refine runs_val (v := .int .i64 i) (w' := w) ?_ ⟨Below.refl _ _, rfl⟩
          go_simp <;> (first | exact IntWalk.u64_in _ (by omega) | exact IntWalk.u32_in _ (by omega) | exact IntWalk.u16_in _ (by omega) | exact IntWalk.u8_in _ (by omega) | exact IntWalk.i64_in _ (by omega) | skip)
        case r5_2o5 =>
          intro vs w hb hV
          rw [if_pos (by kernel_rfl)]
          generalize hρ : rho _ _ _ vs = ρ
          have d33 : (vs 4) = .int .i64 i := hV 4 (by kernel_rfl)
          have e33 : ρ (.tmp 33) = vs 4 := by rw [← hρ]; kernel_rfl
          rw [d33] at e33; clear d33
          have econ : ∀ v : Value, ρ (.const v) = v := fun v => by rw [← hρ]; rfl
          clear hρ hV
          have nx := NX.out
          refine runs_val (v := .int .i64 ((i + 1 : Nat) : Int)) (w' := w) ?_ ⟨Below.refl _ _, rfl⟩
          rw [← nx]
          clear nx
          go_simp
        case r5_2o6 =>
          intro vs w hb hV
          rw [if_pos (by kernel_rfl)]
          generalize hρ : rho _ _ _ vs = ρ
          have d31 : (vs 2) = .slice A n c := hV 2 (by kernel_rfl)
          have e31 : ρ (.tmp 31) = vs 2 := by rw [← hρ]; kernel_rfl
          rw [d31] at e31; clear d31
          have d32 : (vs 3) = .int .i64 i := hV 3 (by kernel_rfl)
          have e32 : ρ (.tmp 32) = vs 3 := by rw [← hρ]; kernel_rfl
          rw [d32] at e32; clear d32
          have d34 : (vs 5) = .int .i64 ((i + 1 : Nat) : Int) := hV 5 (by kernel_rfl)
          have e34 : ρ (.tmp 34) = vs 5 := by rw [← hρ]; kernel_rfl
          rw [d34] at e34; clear d34
          clear hρ hV
          have r1 := LH1.out w
          exact runs_slice 39 (.tmp 31) (some (.tmp 32)) (some (.tmp 34)) none rfl Try.underlying39 (by simp only [Option.map_some, Option.map_none, e31, e32, e34]; exact r1) ⟨Below.refl _ _, rfl⟩
        case r5_2o7 =>
          intro vs w hb hV
          rw [if_pos (by kernel_rfl)]
          generalize hρ : rho _ _ _ vs = ρ
          have e5 : ρ (.tmp 5) = .pointer (some ⟨gc, 0, none⟩) := by rw [← hρ]; kernel_rfl
          clear hρ hV
          have c0 := pw_cell_below hb (blk_cell GC0.out 0)
          exact runs_load 89 (.tmp 5) rfl gc (by assumption) 89 _ (0, 0) _ (blk_below GC0.out hb) Try.underlying89 rfl rfl ⟨Below.refl _ _, rfl⟩
        case r5_2o8 =>
          intro vs w hb hV
          rw [if_pos (by kernel_rfl)]
          generalize hρ : rho _ _ _ vs = ρ
          have d36 : (vs 7) = .agg #[.int .i32 z0, .int .u32 y0] := hV 7 (by kernel_rfl)
          have e36 : ρ (.tmp 36) = vs 7 := by rw [← hρ]; kernel_rfl
          rw [d36] at e36; clear d36
          have ef50 : ρ (.func 50) = .func (.func 50) #[] #[] := by rw [← hρ]; rfl
          clear hρ hV
          refine runs_call (f := 50) (args := #[.agg #[.int .i32 z0, .int .u32 y0]]) (w' := w) ?_ ?_
          · go_simp
          · refine (bytes_any z0 y0 x0 y0 HXW.out.1 HXW.out.2.2.2 (by have := HXW.out; omega) (by have := HXW.out; omega) w).mono ?_
            rintro e w5 ⟨v, rfl, hv, hb5⟩
            obtain ⟨A1, c1, e1, e2, e3⟩ := Kd.R_reads hv
            have e4 : (cellN x0 y0).length = 8 := by simp [cellN, lowN_length]
            rw [e4] at e1 e2 e3
            exact ⟨_, rfl, hb5, A1, c1, e1, e2, e3⟩
        case r5_2o9 =>
          intro vs w hb hV
          rw [if_pos (by kernel_rfl)]
          generalize hρ : rho _ _ _ vs = ρ
          have d29 : (vs 0) = .slice Ao lo co := hV 0 (by kernel_rfl)
          have e29 : ρ (.tmp 29) = vs 0 := by rw [← hρ]; kernel_rfl
          rw [d29] at e29; clear d29
          have d35 : (fun (w : World) (v : Value) => v = .slice Ap (i + 1 - i) (c - i)) w (vs 6) := hV 6 (by kernel_rfl)
          have e35 : ρ (.tmp 35) = vs 6 := by rw [← hρ]; kernel_rfl
          have d37 : (fun (w : World) (v : Value) => ∃ A c, v = .slice A 8 c ∧ 8 ≤ c ∧ (Kd.int .u8).C w A 8 (cellN x0 y0)) w (vs 8) := hV 8 (by kernel_rfl)
          have e37 : ρ (.tmp 37) = vs 8 := by rw [← hρ]; kernel_rfl
          obtain ⟨B2, b2, h2, hb6, hC2⟩ := d37
          clear hρ hV
          rw [h2] at e37
          have e35' := e35.trans d35
          have e11 : i + 1 - i = 1 := by omega
          rw [e11] at e35'
          have hc1 : 1 ≤ c - i := by have := HCC.out.1; have := HPC.out; omega
          refine runs_val (v := .slice (some ⟨w.heap.size, 0, none⟩) 3 3) (w' := w.alloc (.cells #[.slice Ao lo co, .slice Ap 1 (c - i), .slice B2 8 b2] 39)) ?_ ⟨below_alloc (Below.refl _ _) _, _, rfl, C_of_three (heap_alloc_new _ _) (Kd.C_alloc (Kd.C_below HO.out hb) _) HCO.out (Kd.C_alloc (LH2.out w (HB0.out.trans (hb.mono (Nat.le_of_lt GSZ.out)))) _) hc1 (Kd.C_alloc hC2 _) hb6⟩
          clear e35 d35
          go_simp
        case r5_2o10 =>
          intro vs w hb hV
          rw [if_pos (by kernel_rfl)]
          generalize hρ : rho _ _ _ vs = ρ
          have d38 : (fun (w : World) (v : Value) => ∃ A, v = .slice A 3 3 ∧ (Kd.slice 5 (Kd.int .u8)).C w A 3 [W0, [pi], cellN x0 y0]) w (vs 9) := hV 9 (by kernel_rfl)
          have e38 : ρ (.tmp 38) = vs 9 := by rw [← hρ]; kernel_rfl
          obtain ⟨B4, h4, hC4⟩ := d38
          have ef29 : ρ (.func 29) = .func (.func 29) #[] #[] := by rw [← hρ]; rfl
          clear hρ hV
          rw [h4] at e38
          refine runs_call (f := 29) (args := #[.slice B4 3 3]) (w' := w) ?_ ?_
          · go_simp
          · refine (join_any B4 3 3 _ w hC4 (by omega) (by have := HLEN.out; have := HLO.out; simp [lowN_length, cellN]; omega)).mono ?_
            rintro e w5 ⟨v, rfl, hv, hb5⟩
            have he : [W0, [pi], cellN x0 y0].flatten = W0 ++ (pi :: cellN x0 y0) := by simp
            rw [he] at hv
            exact ⟨_, rfl, hb5, BvC.of_R hv⟩
        case r5_2o11 =>
          intro vs w hb hV
          rw [if_pos (by kernel_rfl)]
          generalize hρ : rho _ _ _ vs = ρ
          have d39 : (fun (w : World) (v : Value) => BvC w (W0 ++ (pi :: cellN x0 y0)) v) w (vs 10) := hV 10 (by kernel_rfl)
          have e39 : ρ (.tmp 39) = vs 10 := by rw [← hρ]; kernel_rfl
          clear hρ hV
          refine runs_val (v := vs 10) (w' := w) ?_ ⟨Below.refl _ _, d39⟩
          go_simp
        case r5_2e =>
          intro vs z2 hb3 hV
          have d29 : (vs 0) = .slice Ao lo co := hV 0 (Nat.le_of_ble_eq_true rfl)
          have d30 : (vs 1) = .pointer (some ⟨gd, 2, none⟩) := hV 1 (Nat.le_of_ble_eq_true rfl)
          have d31 : (vs 2) = .slice A n c := hV 2 (Nat.le_of_ble_eq_true rfl)
          have d32 : (vs 3) = .int .i64 i := hV 3 (Nat.le_of_ble_eq_true rfl)
          have d33 : (vs 4) = .int .i64 i := hV 4 (Nat.le_of_ble_eq_true rfl)
          have d34 : (vs 5) = .int .i64 ((i + 1 : Nat) : Int) := hV 5 (Nat.le_of_ble_eq_true rfl)
          have d35 : (fun (w : World) (v : Value) => v = .slice Ap (i + 1 - i) (c - i)) z2 (vs 6) := hV 6 (Nat.le_of_ble_eq_true rfl)
          have d36 : (vs 7) = .agg #[.int .i32 z0, .int .u32 y0] := hV 7 (Nat.le_of_ble_eq_true rfl)
          have d37 : (fun (w : World) (v : Value) => ∃ A c, v = .slice A 8 c ∧ 8 ≤ c ∧ (Kd.int .u8).C w A 8 (cellN x0 y0)) z2 (vs 8) := hV 8 (Nat.le_of_ble_eq_true rfl)
          have d38 : (fun (w : World) (v : Value) => ∃ A, v = .slice A 3 3 ∧ (Kd.slice 5 (Kd.int .u8)).C w A 3 [W0, [pi], cellN x0 y0]) z2 (vs 9) := hV 9 (Nat.le_of_ble_eq_true rfl)
          have d39 : (fun (w : World) (v : Value) => BvC w (W0 ++ (pi :: cellN x0 y0)) v) z2 (vs 10) := hV 10 (Nat.le_of_ble_eq_true rfl)
          have d3 : (fun (w : World) (v : Value) => BvC w (W0 ++ (pi :: cellN x0 y0)) v) z2 (vs 11) := hV 11 (Nat.le_of_ble_eq_true rfl)
          clear hV
          simp only [putAll]
          rw [d29, d30, d31, d32, d33, d34, d36]
          clear d29 d30 d31 d32 d33 d34 d36
          generalize vs 6 = v35 at *
          generalize vs 8 = v37 at *
          generalize vs 9 = v38 at *
          generalize vs 10 = v39 at *
          generalize vs 11 = v3 at *
          clear vs
          simp only [Act.put, List.setIfInBounds_toArray, List.set_cons_zero, List.set_cons_succ]
          have HE : Aside0 (BvC z2 (dHead tk hs n ++ dRows (P.take (i + 1)) (C.take (i + 1))) v3 ∧ Below gd w z2 ∧ gd < z2.heap.size ∧ z2.heap[gd]? = some (.cells #[.int .u32 tk, .int .u32 hs, .slice A n c, .slice (some adc) m c2] 58 (0, 0))) := ⟨by
            rw [HROW.out, ← List.append_assoc, HW0.out]
            exact ⟨d3, HB0.out.trans (hb3.mono (Nat.le_of_lt GSZ.out)), Nat.lt_of_lt_of_le GSZ.out hb3.size, blk_below GD0.out hb3⟩⟩
          clear d3 hb3 d35 d37 d38 d39
          go_wp2_with fail
          go_roundw
          case rel => exact ⟨i + 1, by omega, by rw [next64 (by have := HPC.out; omega)], HE⟩
          case measure => rw [next64 (by have := HPC.out; omega)]; simp [intOf]; omega
      · obtain rfl : i = m := by omega
        have d1 : decide (i < i) = false := decide_eq_false (by omega)
        have HE : Aside0 (dHead tk hs n ++ dRows (P.take i) (C.take i) = dBytes tk hs P C) := ⟨by unfold dBytes; rw [List.take_of_length_le (by rw [HPC.out.1]; have := HPC.out; omega), List.take_of_length_le (by rw [HPC.out.2.1]; omega), HPC.out.1]⟩
        rw [HE.out] at H
        generalize hdw : dBytes tk hs P C = dw at *
        go_wp2_with fail
        go_ret
        rw [HGD.out]
        exact ⟨_, rfl, by first | exact H.out.1 | (rw [hdw]; exact H.out.1), H.out.2.1⟩
end Go.Proofs.Ytkhlalpkkmjfnaa

namespace Go.Proofs.Ytkhlalpkkmjfnaa
open Go.RowKit Go.Proofs.YtkhlalpkkmjfnaaW.PrintWords Go.Proofs.YtkhlalpkkmjfnaaW.PrintLast Go.Proofs.YtkhlalpkkmjfnaaW.PrintMore
set_option linter.unusedVariables false
set_option linter.unusedSimpArgs false

/-- The struct and its rows. -/
def RSt (B gd : Nat) (w0 w : World) (tk hs : Int) (vP vC uP uC : Value) (P : List Int) (C : List S89) : Prop :=
  Hp B w0 w [(gd, .cells #[.int .u32 tk, .int .u32 hs, vP, vC] 58 (0, 0)), (B, .cells #[.int .u32 0, .int .u32 0, .slice none 0 0, .slice none 0 0] 58 (0, 0))] [] ∧
    (Kd.int .u8).R 5 w B (fun _ => True) uP P ∧ k89.R 89 w B (fun _ => True) uC C ∧ B ≤ gd
section
variable {B gd : Nat} {w0 w w' : World} {tk hs : Int} {vP vC uP uC u : Value} {P : List Int} {C : List S89}
theorem RSt.le (h : RSt B gd w0 w tk hs vP vC uP uC P C) : B ≤ w.heap.size := Nat.le_trans h.2.2.2 (Nat.le_of_lt (h.1.lt (i := 0) rfl))
theorem RSt.below (h : RSt B gd w0 w tk hs vP vC uP uC P C) (hb : Below w.heap.size w w') : RSt B gd w0 w' tk hs vP vC uP uC P C :=
  ⟨h.1.call hb, Kd.R_below h.2.1 hb, Kd.R_below h.2.2.1 hb, h.2.2.2⟩
theorem RSt.cellP (h : RSt B gd w0 w tk hs vP vC uP uC P C) : w.cell? ⟨gd, 2, none⟩ = some vP := blk_cell (h.1.get (i := 0) rfl) 2
theorem RSt.cellC (h : RSt B gd w0 w tk hs vP vC uP uC P C) : w.cell? ⟨gd, 3, none⟩ = some vC := blk_cell (h.1.get (i := 0) rfl) 3
theorem RSt.rowP {P' : List Int} (h : RSt B gd w0 w tk hs vP vC uP uC P C) (hg : w.grownBy w' uP.ownBlock) (hr : (Kd.int .u8).R 5 w' B (fun _ => True) u P') : RSt B gd w0 w' tk hs vP vC u uC P' C := by
  have hle := h.le
  obtain ⟨h2, h3, h4, h5⟩ := h
  have hbase : ∀ k, uP.ownBlock = some k → B ≤ k := fun k hk => Kd.R_base h3 k hk
  have hb : Below B w w' := (Below.refl B w).grown hg hle hbase
  have n1 := Kd.R_ne h3 (h2.get (i := 0) rfl) (by decide)
  have n2 := Kd.R_ne h3 (h2.get (i := 1) rfl) (by decide)
  refine ⟨h2.rows (r1 := uP.ownBlock) (r2 := none) hb ((hg.block gd (h2.lt (i := 0) rfl) n1).trans (h2.get (i := 0) rfl)) (fun k hk _ hn _ => hg.block k hk hn) (fun p hp => ?_), hr, Kd.R_grown2 h4 rfl hg (fun k hk => ?_), h5⟩
  · obtain rfl := List.mem_singleton.1 hp
    exact ⟨n2, by simp⟩
  · intro e
    exact ((Kd.R_apartR h3 h4 (by decide)).1 k hk).2 (by rw [e])
theorem RSt.rowC {C' : List S89} (h : RSt B gd w0 w tk hs vP vC uP uC P C) (hg : w.grownBy w' uC.ownBlock) (hr : k89.R 89 w' B (fun _ => True) u C') : RSt B gd w0 w' tk hs vP vC uP u P C' := by
  have hle := h.le
  obtain ⟨h2, h3, h4, h5⟩ := h
  have hbase : ∀ k, uC.ownBlock = some k → B ≤ k := fun k hk => Kd.R_base h4 k hk
  have hb : Below B w w' := (Below.refl B w).grown hg hle hbase
  have n1 := Kd.R_ne h4 (h2.get (i := 0) rfl) (by decide)
  have n2 := Kd.R_ne h4 (h2.get (i := 1) rfl) (by decide)
  refine ⟨h2.rows (r1 := uC.ownBlock) (r2 := none) hb ((hg.block gd (h2.lt (i := 0) rfl) n1).trans (h2.get (i := 0) rfl)) (fun k hk _ hn _ => hg.block k hk hn) (fun p hp => ?_), Kd.R_grown2 h3 rfl hg (fun k hk => ?_), hr, h5⟩
  · obtain rfl := List.mem_singleton.1 hp
    exact ⟨n2, by simp⟩
  · intro e
    exact ((Kd.R_apartR h3 h4 (by decide)).1 k (by rw [← e])).2 hk.symm
theorem RSt.setP (h : RSt B gd w0 w tk hs vP vC uP uC P C) : RSt B gd w0 (w.setCell ⟨gd, 2, none⟩ uP) tk hs uP vC uP uC P C := by
  obtain ⟨h2, h3, h4, h5⟩ := h
  have n1 := Kd.R_ne h3 (h2.get (i := 0) rfl) (by decide)
  have n2 := Kd.R_ne h4 (h2.get (i := 0) rfl) (by decide)
  exact ⟨h2.setCell (i := 0) rfl 2 uP, Kd.R_grown2 h3 rfl (grown_setCell _ _ _ _) (fun k hk => by cases hk; exact n1), Kd.R_grown2 h4 rfl (grown_setCell _ _ _ _) (fun k hk => by cases hk; exact n2), h5⟩
theorem RSt.setC (h : RSt B gd w0 w tk hs vP vC uP uC P C) : RSt B gd w0 (w.setCell ⟨gd, 3, none⟩ uC) tk hs vP uC uP uC P C := by
  obtain ⟨h2, h3, h4, h5⟩ := h
  have n1 := Kd.R_ne h3 (h2.get (i := 0) rfl) (by decide)
  have n2 := Kd.R_ne h4 (h2.get (i := 0) rfl) (by decide)
  exact ⟨h2.setCell (i := 0) rfl 3 uC, Kd.R_grown2 h3 rfl (grown_setCell _ _ _ _) (fun k hk => by cases hk; exact n1), Kd.R_grown2 h4 rfl (grown_setCell _ _ _ _) (fun k hk => by cases hk; exact n2), h5⟩
end
/-- What the document's Parse tells. -/
def RParseR (q : List Int) (w' : World) (e : Ending) : Prop :=
  if okD q = true then ∃ v, e = .returned (.tuple #[v, .bool true]) ∧ DrC w' (leN (q.take 4)) (leN ((q.drop 4).take 4)) (pL (q.drop 9) (cntD q)) ((cL (q.drop 9) (cntD q)).map toR) v
  else e = .returned (.tuple #[.agg Z4, .bool false])
/-- Value, of four bytes. -/
theorem value_l0 (l : List Int) (hl : l.length ≤ 8) (hb : Bytes l) : ∀ (i k : Nat) (acc : Int), i ≤ l.length → i < k → acc = leN (l.drop i) → hoodwinkref01_Value.l0 k l acc (wrap64 ((i : Int) - 1)) = some (leN l)
  | 0, k + 1, acc, hi, hk, ha => by
    unfold hoodwinkref01_Value.l0
    rw [if_neg (by unfold wrap64; omega), ha]
    simp
  | i + 1, k + 1, acc, hi, hk, ha => by
    have hlt : i < l.length := by omega
    have e1 : wrap64 (((i + 1 : Nat) : Int) - 1) = (i : Int) := by unfold wrap64; omega
    unfold hoodwinkref01_Value.l0
    rw [e1]
    have hx := hb _ (List.getElem_mem hlt)
    have h1 := leN_bd (fun x hx => hb x (List.mem_of_mem_drop hx) : Bytes (l.drop (i + 1)))
    have h2 : (256 : Int) ^ (l.drop (i + 1)).length ≤ 72057594037927936 := by
      have h3 : (l.drop (i + 1)).length ≤ 7 := by rw [List.length_drop]; omega
      generalize (l.drop (i + 1)).length = j at h3 ⊢
      match j, h3 with
      | 0, _ => decide
      | 1, _ => decide
      | 2, _ => decide
      | 3, _ => decide
      | 4, _ => decide
      | 5, _ => decide
      | 6, _ => decide
      | 7, _ => decide
    rw [← ha] at h1
    rw [if_pos (by omega), if_pos (by omega), if_pos (by omega), rd_getElem hlt, IntWalk.u64_in (256 * acc) (by omega), IntWalk.u64_in l[i] (by omega), IntWalk.u64_in _ (by omega)]
    refine value_l0 l hl hb i k _ (by omega) (by omega) ?_
    rw [List.drop_eq_getElem_cons hlt, ha]
    simp only [leN]
    omega
theorem value_any (A : Option Addr) (n c : Nat) (l : List Int) (w : World) (hr : (Kd.int .u8).C w A n l) (hc : n ≤ c) (hn : n ≤ 8) (hb : Bytes l) :
    Calls Try.prog 53 #[.slice A n c] w fun e w' => e = .returned (.int .u64 (leN l)) ∧ Drawn0 w w' := by
  obtain rfl := hr.1
  exact hoodwinkref01_Value.calls (l.length + 1) A c l _ w hr hc (value_l0 l hn hb l.length (l.length + 1) 0 (Nat.le_refl _) (by omega) (by rw [List.drop_of_length_le (Nat.le_refl _)]; rfl))
end Go.Proofs.Ytkhlalpkkmjfnaa

namespace Go.Proofs.Ytkhlalpkkmjfnaa
open Go.RowKit Go.Proofs.YtkhlalpkkmjfnaaW.PrintWords Go.Proofs.YtkhlalpkkmjfnaaW.PrintLast Go.Proofs.YtkhlalpkkmjfnaaW.PrintMore
set_option linter.unusedVariables false
set_option linter.unusedSimpArgs false

/-- 'xs[:j]' -/
theorem cut_h {P : Program} (k kh : IntKind) (t e bytes : Nat) (ht : P.underlying t = some (.slice e)) (hinfo : (P.info? e).map (fun i => (i.zero, i.size, i.bytes)) = some (some (.int k 0), 1, bytes)) (A : Option Addr) (n c j : Nat) (hj : j ≤ n) (hc : n ≤ c) :
    (∀ W : World, (Instr.slice t (.slice A n c) none (some (.int kh (j : Int))) none).run P W = .ok (.slice A j c) W) ∧
      (∀ (w : World) (xs : List Int), (Kd.int k).C w A n xs → (Kd.int k).C w A j (xs.take j)) := by
  obtain ⟨i0, hi, hzz⟩ := Option.map_eq_some_iff.1 hinfo
  simp only [Prod.mk.injEq] at hzz
  have hel : P.elem t = e := by simp [Program.elem, ht]
  have hu : P.underlying t = some (.slice (P.elem t)) := by rw [hel]; exact ht
  have ha : (A.map fun x => x.add 0) = A := by cases A <;> simp [Addr.add]
  refine ⟨fun W => ?_, fun w xs h => ?_⟩
  · rw [run_slice_h W t A n c hu kh (j : Int) (Int.natCast_nonneg _) (by omega), hel]
    simp [sizeOf, typeInfo, hi, hzz.2.1, sliced, Result.andThen, ha]
  · obtain rfl := h.1
    exact Kd.C_of_reads ((Kd.reads_of_C (d := (0 : Int)) h).take_ j hj)
def RfR (b : Nat) (w : World) (tk hs : Int) (P : List Int) (R : List S89) (v : Value) : Prop :=
  ∃ A c A2 c2, v = .agg #[.int .u32 tk, .int .u32 hs, .slice A P.length c, .slice A2 R.length c2] ∧ P.length ≤ c ∧ R.length ≤ c2 ∧ (Kd.int .u8).R 5 w b (fun _ => True) (.slice A P.length c) P ∧ k89.R 89 w b (fun _ => True) (.slice A2 R.length c2) R
theorem RfR.belowR {b : Nat} {w w' : World} {tk hs : Int} {P : List Int} {C : List S89} {v : Value} (h : RfR b w tk hs P C v) (hb : Below w.heap.size w w') : RfR b w' tk hs P C v := by
  obtain ⟨A, c, A2, c2, e, h1, h2, h3, h4⟩ := h
  exact ⟨A, c, A2, c2, e, h1, h2, Kd.R_below h3 hb, Kd.R_below h4 hb⟩
theorem RfR.setRowB {b g T : Nat} {w : World} {tk hs : Int} {P : List Int} {C : List S89} {v : Value} {cur cs : Array Value} (h : RfR b w tk hs P C v) (hg : w.heap[g]? = some (.cells cur T (0, 0))) (h1 : 5 ≠ T) (h2 : 89 ≠ T) : RfR b (w.setRow g cs) tk hs P C v := by
  obtain ⟨A, c, A2, c2, e, k1, k2, h3, h4⟩ := h
  exact ⟨A, c, A2, c2, e, k1, k2, Kd.R_grown2 h3 rfl (grown_setRow _ _ _) (fun k hk => by cases hk; exact Kd.R_ne h3 hg h1), Kd.R_grown2 h4 rfl (grown_setRow _ _ _) (fun k hk => by cases hk; exact Kd.R_ne h4 hg h2)⟩
theorem RfR.cells {b : Nat} {w : World} {tk hs : Int} {P : List Int} {C : List S89} {v : Value} (h : RfR b w tk hs P C v) : DrC w tk hs P C v := by
  obtain ⟨A, c, A2, c2, e, k1, k2, h3, h4⟩ := h
  exact ⟨A, c, A2, c2, e, k1, k2, (Ru_C h3).2.2, (Ru_C h4).2.2⟩
theorem headD_get (l : List Int) (h : 0 < l.length) : l.headD 0 = l[0] := by
  cases l with
  | nil => simp at h
  | cons a l => rfl
def lenV : Value → Nat
  | .slice _ l _ => l
  | _ => 0
theorem zero_rdelta (w : World) : (zeroValue 58).run Try.prog w = .ok (.agg #[.int .u32 0, .int .u32 0, .slice none 0 0, .slice none 0 0]) w := by kernel_rfl

set_option maxRecDepth 100000 in
set_option maxHeartbeats 16000000 in
theorem rparse_any (A : Option Addr) (n c : Nat) (q : List Int) (w00 : World) (hq : (Kd.int .u8).C w00 A n q) (hc : n ≤ c) (hn : n ≤ 100000000) (hb : Bytes q) :
    Calls Try.prog 33 #[.slice A n c] w00 fun e w' => RParseR q w' e ∧ Below w00.heap.size w00 w' := by
  have HQL := Aside0.mk hq.1
  have HC := Aside0.mk hc
  have HN := Aside0.mk hn
  have HBQ := Aside0.mk hb
  have HF : Aside0 (∀ z, Below w00.heap.size w00 z → (Kd.int .u8).C z A n q) := ⟨fun z hz => Kd.C_below hq hz⟩
  have H0 := Aside0.mk ((Hp.start w00).alloc (.cells #[.int .u32 0, .int .u32 0, .slice none 0 0, .slice none 0 0] 58))
  obtain ⟨B, hB⟩ : ∃ B, w00.heap.size = B := ⟨_, rfl⟩
  rw [hB] at HF H0
  rw [hB]
  have HB := Aside0.mk hB
  clear hq hc hn hb
  have hzd := zero_rdelta
  have hn0 : (0 : Int) ≤ n := by omega
  have hn1 : (n : Int) ≤ 100000000 := by have := HN.out; omega
  go_enter Try.func33, Try.ntmps33
  by_cases h9 : (n : Int) < 9
  · have d9 : decide ((n : Int) < 9) = true := decide_eq_true h9
    have HOK : Aside0 (okD q = false) := ⟨by
      unfold okD
      rw [Bool.and_eq_false_iff]
      left
      rw [decide_eq_false_iff_not]
      have := HQL.out
      omega⟩
    go_wp2_with (first | (refine wpList_store_row rfl 58 (.tmp 2) (.tmp 20) rfl B #[.int .u32 0, .int .u32 0, .slice none 0 0, .slice none 0 0] rfl rfl 58 _ (H0.out.get (i := 0) rfl) (rdelta_info _ _ _ _) rfl (by simp [Value.oneCell']) ?_))
    have H9 := Aside0.mk (H0.out.setRow (i := 0) rfl #[.int .u32 0, .int .u32 0, .slice none 0 0, .slice none 0 0])
    refine bodyPost_ret (results_ct rfl _ _ B _ #[.int .u32 0, .int .u32 0, .slice none 0 0, .slice none 0 0] (0, 0) _ rfl (H9.out.get (i := 0) rfl) Try.underlying58 rfl (rdelta_info _ _ _ _)) rfl ?_
    refine ⟨?_, H9.out.bel⟩
    unfold RParseR
    rw [HOK.out]
    rfl
  · have d9 : decide ((n : Int) < 9) = false := decide_eq_false h9
    have h9' : 9 ≤ q.length := by have := HQL.out; omega
    obtain ⟨ad, hA, c8⟩ := int_at (HF.out _ H0.out.bel) 8 (by omega)
    have hb8 := HBQ.out _ (List.getElem_mem (show 8 < q.length by omega))
    obtain ⟨m, hm⟩ : ∃ m : Nat, q[8] = (m : Int) := ⟨(q[8]).toNat, by omega⟩
    have hcnt : cntD q = m := by
      unfold cntD
      rw [List.drop_eq_getElem_cons (show 8 < q.length by omega)]
      show (q[8]).toNat = m
      omega
    rw [hm] at c8 hb8
    simp only [Addr.add] at c8
    rw [if_neg (by decide)] at c8
    subst hA
    have HM := Aside0.mk (And.intro hcnt (show m ≤ 255 by omega))
    have hm0 : (0 : Int) ≤ m := by omega
    have hm1 : (m : Int) ≤ 255 := by omega
    have hn9 : (9 : Int) ≤ n := by omega
    clear hm hcnt h9' hb8
    by_cases hne : n = 9 + 9 * m
    · have dn : 9 + 9 * (m : Int) = n := by omega
      have HNE := Aside0.mk hne
      obtain ⟨tk, htk⟩ : ∃ tk, leN (q.take 4) = tk := ⟨_, rfl⟩
      obtain ⟨hs, hhs⟩ : ∃ hs, leN ((q.drop 4).take 4) = hs := ⟨_, rfl⟩
      have HTH := Aside0.mk (And.intro htk hhs)
      have HU1 : Aside0 (IntKind.u32.wrap tk = tk ∧ IntKind.u32.wrap hs = hs) := ⟨by
        have h1 := leN4 HBQ.out
        have h2 := leN4 (HBQ.out.drop 4)
        rw [htk] at h1
        rw [hhs] at h2
        unfold U32 at h1 h2
        exact ⟨IntWalk.u32_in _ (by omega), IntWalk.u32_in _ (by omega)⟩⟩
      obtain ⟨x1, x2⟩ := cut_h (P := Try.prog) .u8 .i64 39 5 1 Try.underlying39 np_info (some ad) n c 4 (by omega) HC.out
      obtain ⟨A4, y1, y2⟩ := cut_lh (P := Try.prog) .u8 .i64 .i64 39 5 1 Try.underlying39 np_info (some ad) n c 4 8 (by omega) (by omega) HC.out
      obtain ⟨A9, z1, z2, z3⟩ := eye_lo (P := Try.prog) .u8 .i64 39 5 1 Try.underlying39 np_info (some ad) n c 9 (by omega) HC.out
      have X1 : Aside0 (∀ W : World, (Instr.slice 39 (.slice (some ad) n c) none (some (.int .i64 4)) none).run Try.prog W = .ok (.slice (some ad) 4 c) W) := ⟨fun W => x1 W⟩
      have Y1 : Aside0 (∀ W : World, (Instr.slice 39 (.slice (some ad) n c) (some (.int .i64 4)) (some (.int .i64 8)) none).run Try.prog W = .ok (.slice A4 4 (c - 4)) W) := ⟨fun W => y1 W⟩
      have Z1 : Aside0 (∀ W : World, (Instr.slice 39 (.slice (some ad) n c) (some (.int .i64 9)) none none).run Try.prog W = .ok (.slice A9 (n - 9) (c - 9)) W) := ⟨fun W => z1 W⟩
      have X2 : Aside0 (∀ z, Below B w00 z → (Kd.int .u8).C z (some ad) 4 (q.take 4)) := ⟨fun z hz => x2 z q (HF.out z hz)⟩
      have Y2 : Aside0 (∀ z, Below B w00 z → (Kd.int .u8).C z A4 4 ((q.drop 4).take 4)) := ⟨fun z hz => by have := y2 z q (HF.out z hz); rw [List.drop_take] at this; exact this⟩
      have Z2 : Aside0 (∀ z, Below B w00 z → (Kd.int .u8).C z A9 (n - 9) (q.drop 9)) := ⟨fun z hz => z2 z q (HF.out z hz)⟩
      clear x1 x2 y1 y2 z1 z2 z3 htk hhs hne
      go_wp2_with fail
      have HLT0 : Aside0 (B ≤ (w00.alloc (.cells #[.int .u32 0, .int .u32 0, .slice none 0 0, .slice none 0 0] 58)).heap.size) := ⟨H0.out.le⟩
      have HBW : Aside0 (Below B w00 (w00.alloc (.cells #[.int .u32 0, .int .u32 0, .slice none 0 0, .slice none 0 0] 58))) := ⟨H0.out.bel⟩
      generalize w00.alloc (.cells #[.int .u32 0, .int .u32 0, .slice none 0 0, .slice none 0 0] 58) = W at *
      clear c8 dn hzd
      refine region_fill (W := W) 9 10 #[.int .u32 0, .int .u32 0, .slice none 0 0, .slice none 0 0] #[.int .u32 tk, .int .u32 hs, .slice none 0 0, .slice none 0 0] 58
        [fun (w : World) (v : Value) => v = .slice (some ad) n c,
         fun (w : World) (v : Value) => v = .slice (some ad) 4 c,
         fun (w : World) (v : Value) => v = .int .u64 tk,
         fun (w : World) (v : Value) => v = .int .u32 tk,
         fun (w : World) (v : Value) => v = .slice (some ad) n c,
         fun (w : World) (v : Value) => v = .slice A4 4 (c - 4),
         fun (w : World) (v : Value) => v = .int .u64 hs,
         fun (w : World) (v : Value) => v = .int .u32 hs,
         fun (w : World) (v : Value) => v = .agg #[.int .u32 tk, .int .u32 hs, .slice none 0 0, .slice none 0 0],
         fun (w : World) (v : Value) => Made W.heap.size (.cells #[.int .u32 0, .int .u32 0, .slice none 0 0, .slice none 0 0] 58 (0, 0)) (.cells #[.int .u32 tk, .int .u32 hs, .slice none 0 0, .slice none 0 0] 58 (0, 0)) w v,
         fun (w : World) (v : Value) => True]
        (fun j =>  none)
        [(0, some 21), (1, some 22), (2, some 23), (3, some 24), (4, some 25), (5, some 26), (6, some 27), (7, some 28), (8, some 29), (9, some 4), (10, none)]
        []
        (by kernel_rfl) (by kernel_rfl) (by kernel_rfl) (by kernel_rfl) (by kernel_rfl) ?r3_1z rfl rfl ?r3_1g ?r3_1s ⟨?r3_1o0, ?r3_1o1, ?r3_1o2, ?r3_1o3, ?r3_1o4, ?r3_1o5, ?r3_1o6, ?r3_1o7, ?r3_1o8, ?r3_1o9, ?r3_1o10, trivial⟩ ?r3_1e
      case r3_1z => first | (rw [boardC_size, boardC_size]) | rfl
      case r3_1g =>
        intro j hj; cases hj
      case r3_1s =>
        refine ⟨(fun w w' v hb h => h), (fun w w' v hb h => h), (fun w w' v hb h => h), (fun w w' v hb h => h), (fun w w' v hb h => h), (fun w w' v hb h => h), (fun w w' v hb h => h), (fun w w' v hb h => h), (fun w w' v hb h => h), (fun w w' v hb h => Made.stab w w' v hb h), (fun w w' v hb h => trivial), trivial⟩
      case r3_1o0 =>
        intro vs w hb hV
        rw [if_neg (by decide)]
        rw [if_pos (by kernel_rfl)]
        generalize hρ : rho _ _ _ vs = ρ
        have e0 : ρ (.tmp 0) = .slice (some ad) n c := by rw [← hρ]; kernel_rfl
        clear hρ hV
        refine runs_val (v := .slice (some ad) n c) (w' := w) ?_ ⟨Below.refl _ _, rfl⟩
        go_simp <;> (first | exact IntWalk.u64_in _ (by omega) | exact IntWalk.u32_in _ (by omega) | exact IntWalk.u16_in _ (by omega) | exact IntWalk.u8_in _ (by omega) | exact IntWalk.i64_in _ (by omega) | skip)
      case r3_1o1 =>
        intro vs w hb hV
        rw [if_neg (by decide)]
        rw [if_pos (by kernel_rfl)]
        generalize hρ : rho _ _ _ vs = ρ
        have d21 : (vs 0) = .slice (some ad) n c := hV 0 (by kernel_rfl)
        have e21 : ρ (.tmp 21) = vs 0 := by rw [← hρ]; kernel_rfl
        rw [d21] at e21; clear d21
        have econ : ∀ v : Value, ρ (.const v) = v := fun v => by rw [← hρ]; rfl
        clear hρ hV
        have r1 := X1.out w
        exact runs_slice 39 (.tmp 21) none (some (.const (.int .i64 4))) none rfl Try.underlying39 (by simp only [Option.map_some, Option.map_none, e21, econ]; exact r1) ⟨Below.refl _ _, rfl⟩
      case r3_1o2 =>
        intro vs w hb hV
        rw [if_neg (by decide)]
        rw [if_pos (by kernel_rfl)]
        generalize hρ : rho _ _ _ vs = ρ
        have d22 : (fun (w : World) (v : Value) => v = .slice (some ad) 4 c) w (vs 1) := hV 1 (by kernel_rfl)
        have e22 : ρ (.tmp 22) = vs 1 := by rw [← hρ]; kernel_rfl
        have ef53 : ρ (.func 53) = .func (.func 53) #[] #[] := by rw [← hρ]; rfl
        clear hρ hV
        rw [d22] at e22
        refine runs_call (f := 53) (args := #[.slice (some ad) 4 c]) (w' := w) ?_ ?_
        · clear d22; go_simp
        · refine (value_any (some ad) 4 c (q.take 4) w (X2.out w (HBW.out.trans (hb.mono HLT0.out))) (by have := HC.out; omega) (by omega) (HBQ.out.take 4)).mono ?_
          rintro e w5 ⟨rfl, hb5⟩
          exact ⟨_, rfl, hb5.below, congrArg (Value.int .u64) HTH.out.1⟩
      case r3_1o3 =>
        intro vs w hb hV
        rw [if_neg (by decide)]
        rw [if_pos (by kernel_rfl)]
        generalize hρ : rho _ _ _ vs = ρ
        have d23 : (vs 2) = .int .u64 tk := hV 2 (by kernel_rfl)
        have e23 : ρ (.tmp 23) = vs 2 := by rw [← hρ]; kernel_rfl
        rw [d23] at e23; clear d23
        clear hρ hV
        have ix := HU1.out.1
        refine runs_val (v := .int .u32 tk) (w' := w) ?_ ⟨Below.refl _ _, rfl⟩
        go_simp
        try exact ix
      case r3_1o4 =>
        intro vs w hb hV
        rw [if_neg (by decide)]
        rw [if_pos (by kernel_rfl)]
        generalize hρ : rho _ _ _ vs = ρ
        have e0 : ρ (.tmp 0) = .slice (some ad) n c := by rw [← hρ]; kernel_rfl
        clear hρ hV
        refine runs_val (v := .slice (some ad) n c) (w' := w) ?_ ⟨Below.refl _ _, rfl⟩
        go_simp <;> (first | exact IntWalk.u64_in _ (by omega) | exact IntWalk.u32_in _ (by omega) | exact IntWalk.u16_in _ (by omega) | exact IntWalk.u8_in _ (by omega) | exact IntWalk.i64_in _ (by omega) | skip)
      case r3_1o5 =>
        intro vs w hb hV
        rw [if_neg (by decide)]
        rw [if_pos (by kernel_rfl)]
        generalize hρ : rho _ _ _ vs = ρ
        have d25 : (vs 4) = .slice (some ad) n c := hV 4 (by kernel_rfl)
        have e25 : ρ (.tmp 25) = vs 4 := by rw [← hρ]; kernel_rfl
        rw [d25] at e25; clear d25
        have econ : ∀ v : Value, ρ (.const v) = v := fun v => by rw [← hρ]; rfl
        clear hρ hV
        have r1 := Y1.out w
        exact runs_slice 39 (.tmp 25) (some (.const (.int .i64 4))) (some (.const (.int .i64 8))) none rfl Try.underlying39 (by simp only [Option.map_some, Option.map_none, e25, econ]; exact r1) ⟨Below.refl _ _, rfl⟩
      case r3_1o6 =>
        intro vs w hb hV
        rw [if_neg (by decide)]
        rw [if_pos (by kernel_rfl)]
        generalize hρ : rho _ _ _ vs = ρ
        have d26 : (fun (w : World) (v : Value) => v = .slice A4 4 (c - 4)) w (vs 5) := hV 5 (by kernel_rfl)
        have e26 : ρ (.tmp 26) = vs 5 := by rw [← hρ]; kernel_rfl
        have ef53 : ρ (.func 53) = .func (.func 53) #[] #[] := by rw [← hρ]; rfl
        clear hρ hV
        rw [d26] at e26
        refine runs_call (f := 53) (args := #[.slice A4 4 (c - 4)]) (w' := w) ?_ ?_
        · clear d26; go_simp
        · refine (value_any A4 4 (c - 4) ((q.drop 4).take 4) w (Y2.out w (HBW.out.trans (hb.mono HLT0.out))) (by have := HC.out; omega) (by omega) ((HBQ.out.drop 4).take 4)).mono ?_
          rintro e w5 ⟨rfl, hb5⟩
          exact ⟨_, rfl, hb5.below, congrArg (Value.int .u64) HTH.out.2⟩
      case r3_1o7 =>
        intro vs w hb hV
        rw [if_neg (by decide)]
        rw [if_pos (by kernel_rfl)]
        generalize hρ : rho _ _ _ vs = ρ
        have d27 : (vs 6) = .int .u64 hs := hV 6 (by kernel_rfl)
        have e27 : ρ (.tmp 27) = vs 6 := by rw [← hρ]; kernel_rfl
        rw [d27] at e27; clear d27
        clear hρ hV
        have ix := HU1.out.2
        refine runs_val (v := .int .u32 hs) (w' := w) ?_ ⟨Below.refl _ _, rfl⟩
        go_simp
        try exact ix
      case r3_1o8 =>
        intro vs w hb hV
        rw [if_neg (by decide)]
        rw [if_pos (by kernel_rfl)]
        generalize hρ : rho _ _ _ vs = ρ
        have d24 : (vs 3) = .int .u32 tk := hV 3 (by kernel_rfl)
        have e24 : ρ (.tmp 24) = vs 3 := by rw [← hρ]; kernel_rfl
        rw [d24] at e24; clear d24
        have d28 : (vs 7) = .int .u32 hs := hV 7 (by kernel_rfl)
        have e28 : ρ (.tmp 28) = vs 7 := by rw [← hρ]; kernel_rfl
        rw [d28] at e28; clear d28
        clear hρ hV
        have hzd := zero_rdelta w
        refine runs_val (v := .agg #[.int .u32 tk, .int .u32 hs, .slice none 0 0, .slice none 0 0]) (w' := w) ?_ ⟨Below.refl _ _, rfl⟩
        go_simp
      case r3_1o9 =>
        intro vs w hb hV
        rw [if_neg (by decide)]
        rw [if_pos (by kernel_rfl)]
        generalize hρ : rho _ _ _ vs = ρ
        clear hρ hV
        refine runs_val (v := .pointer (some ⟨w.heap.size, 0, none⟩)) (w' := w.alloc (.cells #[.int .u32 0, .int .u32 0, .slice none 0 0, .slice none 0 0] 58)) ?_ ⟨below_alloc (Below.refl _ _) _, w.heap.size, rfl, hb.size, .inl (blk_new _ _)⟩
        go_simp
      case r3_1o10 =>
        intro vs w hb hV
        rw [if_pos rfl]
        intro g cur hg0 hcur hcsz
        generalize hρ : rho _ _ _ vs = ρ
        have d4 : (fun (w : World) (v : Value) => Made W.heap.size (.cells #[.int .u32 0, .int .u32 0, .slice none 0 0, .slice none 0 0] 58 (0, 0)) (.cells #[.int .u32 tk, .int .u32 hs, .slice none 0 0, .slice none 0 0] 58 (0, 0)) w v) w (vs 9) := hV 9 (by kernel_rfl)
        have e4 : ρ (.tmp 4) = vs 9 := by rw [← hρ]; kernel_rfl
        rw [hg0] at e4; clear d4
        have d29 : (vs 8) = .agg #[.int .u32 tk, .int .u32 hs, .slice none 0 0, .slice none 0 0] := hV 8 (by kernel_rfl)
        have e29 : ρ (.tmp 29) = vs 8 := by rw [← hρ]; kernel_rfl
        rw [d29] at e29; clear d29
        clear hρ hV
        exact runs_store_row 58 (.tmp 4) (.tmp 29) rfl g _ e4 e29 58 cur hcur (rdelta_info _ _ _ _) hcsz (by simp [Value.oneCell']) rfl
      case r3_1e =>
        intro vs W2 g4 hb2 hV hgP hgB4 hgF4
        have d21 : (vs 0) = .slice (some ad) n c := hV 0 (Nat.le_of_ble_eq_true rfl)
        have d22 : (fun (w : World) (v : Value) => v = .slice (some ad) 4 c) W2 (vs 1) := hV 1 (Nat.le_of_ble_eq_true rfl)
        have d23 : (vs 2) = .int .u64 tk := hV 2 (Nat.le_of_ble_eq_true rfl)
        have d24 : (vs 3) = .int .u32 tk := hV 3 (Nat.le_of_ble_eq_true rfl)
        have d25 : (vs 4) = .slice (some ad) n c := hV 4 (Nat.le_of_ble_eq_true rfl)
        have d26 : (fun (w : World) (v : Value) => v = .slice A4 4 (c - 4)) W2 (vs 5) := hV 5 (Nat.le_of_ble_eq_true rfl)
        have d27 : (vs 6) = .int .u64 hs := hV 6 (Nat.le_of_ble_eq_true rfl)
        have d28 : (vs 7) = .int .u32 hs := hV 7 (Nat.le_of_ble_eq_true rfl)
        have d29 : (vs 8) = .agg #[.int .u32 tk, .int .u32 hs, .slice none 0 0, .slice none 0 0] := hV 8 (Nat.le_of_ble_eq_true rfl)
        have d4 : vs 9 = .pointer (some ⟨g4, 0, none⟩) := hgP; clear hgP
        clear hV
        simp only [putAll]
        rw [d21, d23, d24, d25, d27, d28, d29, d4]
        clear d21 d23 d24 d25 d27 d28 d29 d4
        generalize vs 1 = v22 at *
        generalize vs 5 = v26 at *
        generalize vs 10 = vN10
        clear vs
        simp only [Act.put, List.setIfInBounds_toArray, List.set_cons_zero, List.set_cons_succ]
        have HP := H0.out.found hb2 hgB4 hgF4
        have hBg : B ≤ g4 := Nat.le_trans HLT0.out hgB4
        have S0 : Aside0 (RSt B g4 w00 W2 tk hs (.slice none 0 0) (.slice none 0 0) (.slice none 0 0) (.slice none 0 0) [] []) := ⟨HP, Kd.R_nil _ _ _ _ _, Kd.R_nil _ _ _ _ _, hBg⟩
        clear HP hBg hb2 hgB4 hgF4 d22 d26 H0 HBW HLT0 X1 X2 Y1 Y2
        have z1 := Z1.out
        go_wp2_with fail
        clear z1 Z1
        go_loopw [5] (fun v5 wr => ∃ i : Nat, i ≤ m ∧ ∃ (l : Nat) (A5 : Option Addr) (c5 : Nat), v5 = .slice A5 l c5 ∧ Aside0 (l = 9 * (m - i) ∧ l ≤ c5 ∧ (∀ z, Below B w00 z → (Kd.int .u8).C z A5 l (q.drop (9 + 9 * i))) ∧ ∃ vP vC, RSt B g4 w00 wr tk hs vP vC vP vC (pL (q.drop 9) i) ((cL (q.drop 9) i).map toR))) (fun v5 _ => lenV v5)
        case atStart => exact ⟨0, by omega, n - 9, A9, c - 9, rfl, ⟨by have := HNE.out; omega, by have := HC.out; omega, Z2.out, _, _, S0.out⟩⟩
        case round =>
          clear S0 Z2
          obtain ⟨i, hi, l, A5, c5, rfl, H⟩ := hrel
          obtain ⟨vP, vC, hS⟩ := H.out.2.2.2
          have S := Aside0.mk hS
          by_cases hlt : i < m
          · have hl9 : 9 ≤ l := by have := H.out.1; omega
            have hl0 : (0 : Int) < l := by omega
            have dl : decide ((0 : Int) < l) = true := decide_eq_true hl0
            have hlen := (H.out.2.2.1 wr hS.1.bel).1
            obtain ⟨a5, hA5, cc⟩ := int_at (H.out.2.2.1 wr hS.1.bel) 0 (by omega)
            subst hA5
            obtain ⟨b, hbb⟩ : ∃ b, (q.drop (9 + 9 * i))[0]'(by omega) = b := ⟨_, rfl⟩
            have hrow : rowP (q.drop 9) i = b := by
              unfold rowP
              rw [List.drop_drop, ← hbb]
              exact headD_get _ (by omega)
            have HB5 : Aside0 (∀ z, Below B w00 z → z.cell? a5 = some (.int .u8 b)) := ⟨fun z hz => by
              obtain ⟨a6, hA6, cc6⟩ := int_at (H.out.2.2.1 z hz) 0 (by omega)
              obtain rfl := Option.some.inj hA6
              rw [hbb] at cc6
              simpa [Addr.add] using cc6⟩
            have HROW := Aside0.mk hrow
            have HL9 := Aside0.mk hl9
            have HPL : Aside0 ((pL (q.drop 9) i).length ≤ 255 ∧ ((cL (q.drop 9) i).map toR).length ≤ 255) := ⟨by rw [pL_len, List.length_map, cL_len]; have := HM.out; omega⟩
            obtain ⟨P, hP⟩ : ∃ P, pL (q.drop 9) i = P := ⟨_, rfl⟩
            obtain ⟨R, hR⟩ : ∃ R, (cL (q.drop 9) i).map toR = R := ⟨_, rfl⟩
            rw [hP, hR] at S HPL
            have HPR := Aside0.mk (And.intro hP hR)
            obtain ⟨A15, p1, p2⟩ := cut_lh (P := Try.prog) .u8 .i64 .i64 39 5 1 Try.underlying39 np_info (some a5) l c5 1 5 (by omega) (by omega) H.out.2.1
            obtain ⟨A59, r1, r2⟩ := cut_lh (P := Try.prog) .u8 .i64 .i64 39 5 1 Try.underlying39 np_info (some a5) l c5 5 9 (by omega) (by omega) H.out.2.1
            obtain ⟨A90, o1, o2, o3⟩ := eye_lo (P := Try.prog) .u8 .i64 39 5 1 Try.underlying39 np_info (some a5) l c5 9 (by omega) H.out.2.1
            have P1 : Aside0 (∀ W : World, (Instr.slice 39 (.slice (some a5) l c5) (some (.int .i64 1)) (some (.int .i64 5)) none).run Try.prog W = .ok (.slice A15 4 (c5 - 1)) W) := ⟨fun W => p1 W⟩
            have R1 : Aside0 (∀ W : World, (Instr.slice 39 (.slice (some a5) l c5) (some (.int .i64 5)) (some (.int .i64 9)) none).run Try.prog W = .ok (.slice A59 4 (c5 - 5)) W) := ⟨fun W => r1 W⟩
            have O1 : Aside0 (∀ W : World, (Instr.slice 39 (.slice (some a5) l c5) (some (.int .i64 9)) none none).run Try.prog W = .ok (.slice A90 (l - 9) (c5 - 9)) W) := ⟨fun W => o1 W⟩
            have P2 : Aside0 (∀ z, Below B w00 z → (Kd.int .u8).C z A15 4 (((q.drop 9).drop (9 * i + 1)).take 4)) := ⟨fun z hz => by
              have := p2 z _ (H.out.2.2.1 z hz)
              rw [List.drop_take, List.drop_drop] at this
              rw [List.drop_drop, show 9 + (9 * i + 1) = 9 + 9 * i + 1 by omega]; exact this⟩
            have R2 : Aside0 (∀ z, Below B w00 z → (Kd.int .u8).C z A59 4 (((q.drop 9).drop (9 * i + 5)).take 4)) := ⟨fun z hz => by
              have := r2 z _ (H.out.2.2.1 z hz)
              rw [List.drop_take, List.drop_drop] at this
              rw [List.drop_drop, show 9 + (9 * i + 5) = 9 + 9 * i + 5 by omega]; exact this⟩
            have O2 : Aside0 (∀ z, Below B w00 z → (Kd.int .u8).C z A90 (l - 9) (q.drop (9 + 9 * (i + 1)))) := ⟨fun z hz => by
              have := o2 z _ (H.out.2.2.1 z hz)
              rw [List.drop_drop] at this
              rw [show 9 + 9 * (i + 1) = 9 + 9 * i + 9 by omega]; exact this⟩
            have HCL : Aside0 (4 ≤ c5 - 1 ∧ 4 ≤ c5 - 5 ∧ l - 9 ≤ c5 - 9) := ⟨by have := H.out.2.1; omega⟩
            obtain ⟨vv, hvv⟩ : ∃ vv, leN (((q.drop 9).drop (9 * i + 1)).take 4) = vv := ⟨_, rfl⟩
            obtain ⟨mk, hmk⟩ : ∃ mk, leN (((q.drop 9).drop (9 * i + 5)).take 4) = mk := ⟨_, rfl⟩
            obtain ⟨x0, hx0⟩ : ∃ x0, wrap32 vv = x0 := ⟨_, rfl⟩
            have hrc : rowC (q.drop 9) i = ⟨x0, mk⟩ := by unfold rowC; rw [hvv, hmk, hx0]
            have HV : Aside0 (leN (((q.drop 9).drop (9 * i + 1)).take 4) = vv ∧ leN (((q.drop 9).drop (9 * i + 5)).take 4) = mk ∧ wrap32 vv = x0) := ⟨⟨hvv, hmk, hx0⟩⟩
            have HVU : Aside0 (IntKind.u32.wrap vv = vv ∧ IntKind.u32.wrap mk = mk) := ⟨by
              have h1 := leN4 ((HBQ.out.drop 9).drop (9 * i + 1))
              have h2 := leN4 ((HBQ.out.drop 9).drop (9 * i + 5))
              rw [hvv] at h1
              rw [hmk] at h2
              unfold U32 at h1 h2
              exact ⟨IntWalk.u32_in _ (by omega), IntWalk.u32_in _ (by omega)⟩⟩
            have HRC := Aside0.mk hrc
            clear p1 p2 r1 r2 o1 o2 o3 hvv hmk hx0 hrc
            clear hS hlen cc hbb hrow hP hR hl9
            go_wp2_with fail
            have GW : Aside0 (∀ b', wr.heap.size ≤ b' → some b' ≠ vP.ownBlock ∧ some b' ≠ vC.ownBlock ∧ b' ≠ g4) := ⟨fun b' hb' => ⟨fun e => by have := Kd.R_lt S.out.2.1 _ e.symm; omega, fun e => by have := Kd.R_lt S.out.2.2.1 _ e.symm; omega, fun e => by have := S.out.1.lt (i := 0) rfl; omega⟩⟩
            refine regionS (W := wr)
              [fun _ v => v = .pointer (some ⟨g4, 2, none⟩),
               fun _ v => v = vP,
               fun _ v => v = .slice (some a5) l c5,
               fun _ v => v = .pointer (some a5),
               fun _ v => v = .int .u8 b,
               fun (w : World) (v : Value) => ∃ bl, v = .slice (some ⟨bl, 0, none⟩) 1 1 ∧ wr.heap.size ≤ bl ∧ w.heap[bl]? = some (.cells #[.int .u8 b] 5 (0, 0)),
               fun _ _ => True,
               fun _ v => v = .pointer (some ⟨g4, 2, none⟩),
               fun _ _ => True]
              [6, 8]
              (fun t => match t with | 0 => fun (rs : List Value) (w : World) => RSt B g4 w00 w tk hs vP vC vP vC P R | 1 => fun (rs : List Value) (w : World) => RSt B g4 w00 w tk hs vP vC (rs.getD 0 undef) vC (P ++ [b]) R | 2 => fun (rs : List Value) (w : World) => ∃ u, RSt B g4 w00 w tk hs u vC u vC (P ++ [b]) R | _ => fun _ _ => False)
              (fun _ w w' => ∀ b', wr.heap.size ≤ b' → b' < w.heap.size → w'.heap[b']? = w.heap[b']?) (fun w => wr.heap.size ≤ w.heap.size ∧ Below B w00 w)
              (fun j =>  none)
              [(0, some 37), (1, some 38), (2, some 39), (3, some 40), (4, some 41), (5, some 42), (6, some 43), (7, some 44), (8, none)]
              []
              (by kernel_rfl) (by kernel_rfl) (by kernel_rfl) (by kernel_rfl) (by kernel_rfl) ?z7_2c ?z7_2i ?z7_2b ?z7_2d ?z7_2g ⟨?z7_2t0, ?z7_2t1, ?z7_2t2, ?z7_2t3, ?z7_2t4, ?z7_2t5, ?z7_2t6, ?z7_2t7, ?z7_2t8, trivial⟩ ⟨?z7_2o0, ?z7_2o1, ?z7_2o2, ?z7_2o3, ?z7_2o4, ?z7_2o5, ?z7_2o6, ?z7_2o7, ?z7_2o8, trivial⟩ ?z7_2e
            case z7_2c => exact ⟨Nat.le_refl _, (S.out.below (below_drew (Below.refl _ _))).1.bel⟩
            case z7_2i => exact (S.out.below (below_drew (Below.refl _ _)))
            case z7_2b => intro w w' hb h; exact ⟨Nat.le_trans h.1 hb.size, h.2.trans (hb.mono (Nat.le_trans S.out.le h.1))⟩
            case z7_2d =>
              intro t rs w w' hb h
              match t, h with
              | 0, h => (replace h : RSt B g4 w00 w tk hs vP vC vP vC P R := h); show RSt B g4 w00 w' tk hs vP vC vP vC P R; first | exact RSt.below h hb | (obtain ⟨u, h⟩ := h; exact ⟨u, RSt.below h hb⟩)
              | 1, h => (replace h : RSt B g4 w00 w tk hs vP vC (rs.getD 0 undef) vC (P ++ [b]) R := h); show RSt B g4 w00 w' tk hs vP vC (rs.getD 0 undef) vC (P ++ [b]) R; first | exact RSt.below h hb | (obtain ⟨u, h⟩ := h; exact ⟨u, RSt.below h hb⟩)
              | 2, h => (replace h : ∃ u, RSt B g4 w00 w tk hs u vC u vC (P ++ [b]) R := h); show ∃ u, RSt B g4 w00 w' tk hs u vC u vC (P ++ [b]) R; first | exact RSt.below h hb | (obtain ⟨u, h⟩ := h; exact ⟨u, RSt.below h hb⟩)
              | _ + 3, h => exact h.elim
            case z7_2g =>
              intro j hj; cases hj
            case z7_2t0 => exact StabS.const _ _ _ _
            case z7_2t1 => exact StabS.const _ _ _ _
            case z7_2t2 => exact StabS.const _ _ _ _
            case z7_2t3 => exact StabS.const _ _ _ _
            case z7_2t4 => exact StabS.const _ _ _ _
            case z7_2t5 => exact ⟨(by intro w w' v hb h; (obtain ⟨bl, h1, h2, h3⟩ := h; exact ⟨bl, h1, h2, blk_below h3 hb⟩)), (by intro k hk hne w w' v ht h; (obtain ⟨bl, h1, h2, h3⟩ := h; exact ⟨bl, h1, h2, (ht bl h2 (blk_lt h3)).trans h3⟩))⟩
            case z7_2t6 => exact StabS.const _ _ _ _
            case z7_2t7 => exact StabS.const _ _ _ _
            case z7_2t8 => exact StabS.const _ _ _ _
            case z7_2o0 =>
              intro vs w t hC ht1 ht2 hS hV
              rw [if_pos (by kernel_rfl)]
              generalize hρ : rho _ _ _ vs = ρ
              have e4 : ρ (.tmp 4) = .pointer (some ⟨g4, 0, none⟩) := by rw [← hρ]; kernel_rfl
              clear hρ hV
              refine runs_val (v := .pointer (some ⟨g4, 2, none⟩)) (w' := w) ?_ ⟨Below.refl _ _, rfl⟩
              clear ht1 ht2 hS hC
              go_simp <;> (first | exact IntWalk.u64_in _ (by omega) | exact IntWalk.u32_in _ (by omega) | exact IntWalk.u16_in _ (by omega) | exact IntWalk.u8_in _ (by omega) | exact IntWalk.i64_in _ (by omega) | skip)
            case z7_2o1 =>
              intro vs w t hC ht1 ht2 hS hV
              rw [if_pos (by kernel_rfl)]
              generalize hρ : rho _ _ _ vs = ρ
              have d37 : (vs 0) = .pointer (some ⟨g4, 2, none⟩) := hV 0 (by kernel_rfl)
              have e37 : ρ (.tmp 37) = vs 0 := by rw [← hρ]; kernel_rfl
              rw [d37] at e37; clear d37
              clear hρ hV
              have ht0 : t ≤ 0 := by
                rcases Nat.lt_or_ge 0 t with hq | hq
                · exact absurd (ht1 0 6 _ hq rfl rfl) (by decide +kernel)
                · exact hq
              rcases (show t = 0 by omega) with rfl
              · replace hS : RSt B g4 w00 w tk hs vP vC vP vC P R := hS
                have c0 := RSt.cellP hS
                refine runs_val (v := vP) (w' := w) ?_ ⟨Below.refl _ _, rfl⟩
                clear ht1 ht2 hS hC
                go_simp
            case z7_2o2 =>
              intro vs w t hC ht1 ht2 hS hV
              rw [if_pos (by kernel_rfl)]
              generalize hρ : rho _ _ _ vs = ρ
              have e5 : ρ (.tmp 5) = .slice (some a5) l c5 := by rw [← hρ]; kernel_rfl
              clear hρ hV
              refine runs_val (v := .slice (some a5) l c5) (w' := w) ?_ ⟨Below.refl _ _, rfl⟩
              clear ht1 ht2 hS hC
              go_simp <;> (first | exact IntWalk.u64_in _ (by omega) | exact IntWalk.u32_in _ (by omega) | exact IntWalk.u16_in _ (by omega) | exact IntWalk.u8_in _ (by omega) | exact IntWalk.i64_in _ (by omega) | skip)
            case z7_2o3 =>
              intro vs w t hC ht1 ht2 hS hV
              rw [if_pos (by kernel_rfl)]
              generalize hρ : rho _ _ _ vs = ρ
              have d39 : (vs 2) = .slice (some a5) l c5 := hV 2 (by kernel_rfl)
              have e39 : ρ (.tmp 39) = vs 2 := by rw [← hρ]; kernel_rfl
              rw [d39] at e39; clear d39
              have econ : ∀ v : Value, ρ (.const v) = v := fun v => by rw [← hρ]; rfl
              clear hρ hV
              refine runs_val (v := .pointer (some a5)) (w' := w) ?_ ⟨Below.refl _ _, rfl⟩
              clear ht1 ht2 hS hC
              go_simp
            case z7_2o4 =>
              intro vs w t hC ht1 ht2 hS hV
              rw [if_pos (by kernel_rfl)]
              generalize hρ : rho _ _ _ vs = ρ
              have d40 : (vs 3) = .pointer (some a5) := hV 3 (by kernel_rfl)
              have e40 : ρ (.tmp 40) = vs 3 := by rw [← hρ]; kernel_rfl
              rw [d40] at e40; clear d40
              clear hρ hV
              have c0 := HB5.out w hC.2
              refine runs_val (v := .int .u8 b) (w' := w) ?_ ⟨Below.refl _ _, rfl⟩
              clear ht1 ht2 hS hC
              go_simp
            case z7_2o5 =>
              intro vs w t hC ht1 ht2 hS hV
              rw [if_pos (by kernel_rfl)]
              generalize hρ : rho _ _ _ vs = ρ
              have d41 : (vs 4) = .int .u8 b := hV 4 (by kernel_rfl)
              have e41 : ρ (.tmp 41) = vs 4 := by rw [← hρ]; kernel_rfl
              rw [d41] at e41; clear d41
              clear hρ hV
              refine runs_val (v := .slice (some ⟨w.heap.size, 0, none⟩) 1 1) (w' := w.alloc (.cells #[.int .u8 b] 5)) ?_ ⟨below_alloc (Below.refl _ _) _, ⟨w.heap.size, rfl, hC.1, blk_new _ _⟩⟩
              clear ht1 ht2 hS hC
              go_simp
            case z7_2o6 =>
              intro vs w hC hS hV
              replace hS : RSt B g4 w00 w tk hs vP vC vP vC P R := hS
              rw [if_pos (by kernel_rfl)]
              generalize hρ : rho _ _ _ vs = ρ
              have d38 : (vs 1) = vP := hV 1 (by kernel_rfl)
              have e38 : ρ (.tmp 38) = vs 1 := by rw [← hρ]; kernel_rfl
              rw [d38] at e38; clear d38
              have d42 : (fun (w : World) (v : Value) => ∃ bl, v = .slice (some ⟨bl, 0, none⟩) 1 1 ∧ wr.heap.size ≤ bl ∧ w.heap[bl]? = some (.cells #[.int .u8 b] 5 (0, 0))) w (vs 5) := hV 5 (by kernel_rfl)
              have e42 : ρ (.tmp 42) = vs 5 := by rw [← hρ]; kernel_rfl
              obtain ⟨bl, hve42, hbl1, hbl2⟩ := d42
              clear hρ hV
              rw [hve42] at e42
              refine runs_append (Kd.int .u8) (Rr := fun x cs => cs = [.int .u8 x]) B 38 42 39 5 (.int .u8 0) 1 rfl Try.underlying39 np_info rfl (by decide) (by decide) vP P [b] (some ⟨bl, 0, none⟩) 1 1 (fun _ => True) (fun _ => False) e38 e42 hS.2.1 (C_of_block (k := .u8) hbl2 ⟨rfl, rfl, by decide⟩) (fun _ _ h => h) (fun _ h => h.elim) (fun _ _ => trivial) hS.le (by have := HPL.out; omega) ?_
              intro v1 w1 h1 hg1 hat
              exact ⟨⟨Nat.le_trans hC.1 hg1.size, (hS.rowP hg1 h1).1.bel⟩, (fun b' h1 h2 => hg1.block b' h2 (GW.out b' h1).1), trivial, hS.rowP hg1 h1⟩
            case z7_2o7 =>
              intro vs w t hC ht1 ht2 hS hV
              rw [if_pos (by kernel_rfl)]
              generalize hρ : rho _ _ _ vs = ρ
              have e4 : ρ (.tmp 4) = .pointer (some ⟨g4, 0, none⟩) := by rw [← hρ]; kernel_rfl
              clear hρ hV
              refine runs_val (v := .pointer (some ⟨g4, 2, none⟩)) (w' := w) ?_ ⟨Below.refl _ _, rfl⟩
              clear ht1 ht2 hS hC
              go_simp <;> (first | exact IntWalk.u64_in _ (by omega) | exact IntWalk.u32_in _ (by omega) | exact IntWalk.u16_in _ (by omega) | exact IntWalk.u8_in _ (by omega) | exact IntWalk.i64_in _ (by omega) | skip)
            case z7_2o8 =>
              intro vs w hC hS hV
              replace hS : RSt B g4 w00 w tk hs vP vC (vs 6) vC (P ++ [b]) R := hS
              rw [if_pos (by kernel_rfl)]
              generalize hρ : rho _ _ _ vs = ρ
              have d44 : (vs 7) = .pointer (some ⟨g4, 2, none⟩) := hV 7 (by kernel_rfl)
              have e44 : ρ (.tmp 44) = vs 7 := by rw [← hρ]; kernel_rfl
              rw [d44] at e44; clear d44
              have d43 : (fun (w : World) (v : Value) => True) w (vs 6) := hV 6 (by kernel_rfl)
              have e43 : ρ (.tmp 43) = vs 6 := by rw [← hρ]; kernel_rfl
              clear hρ hV
              have hS2 := hS.setP
              obtain ⟨A5, c5, hs5⟩ := Kd.R_slice hS.2.1
              have f0 := blk_frozen (hS.1.get (i := 0) rfl) 2
              have c0 := RSt.cellP hS
              refine runs_skip (w' := w.setCell ⟨g4, 2, none⟩ (vs 6)) ?_ ⟨⟨Nat.le_trans hC.1 (by simp [World.setCell]), hS2.1.bel⟩, (fun b' h1 h2 => Below.heap_setCell _ _ _ _ (GW.out b' h1).2.2), trivial, ⟨_, hS2⟩⟩
              rw [hs5] at e43
              rw [hs5]
              clear hS hS2 hC d43 hs5
              go_simp
            case z7_2e =>
              intro vs w7 hC hS hV
              replace hS : (fun (w : World) => ∃ u, RSt B g4 w00 w tk hs u vC u vC (P ++ [b]) R) w7 := hS
              have d37 : (vs 0) = .pointer (some ⟨g4, 2, none⟩) := hV 0 (Nat.le_of_ble_eq_true rfl)
              have d38 : (vs 1) = vP := hV 1 (Nat.le_of_ble_eq_true rfl)
              have d39 : (vs 2) = .slice (some a5) l c5 := hV 2 (Nat.le_of_ble_eq_true rfl)
              have d40 : (vs 3) = .pointer (some a5) := hV 3 (Nat.le_of_ble_eq_true rfl)
              have d41 : (vs 4) = .int .u8 b := hV 4 (Nat.le_of_ble_eq_true rfl)
              have d42 : (fun (w : World) (v : Value) => ∃ bl, v = .slice (some ⟨bl, 0, none⟩) 1 1 ∧ wr.heap.size ≤ bl ∧ w.heap[bl]? = some (.cells #[.int .u8 b] 5 (0, 0))) w7 (vs 5) := hV 5 (Nat.le_of_ble_eq_true rfl)
              have d43 : (fun (w : World) (v : Value) => True) w7 (vs 6) := hV 6 (Nat.le_of_ble_eq_true rfl)
              have d44 : (vs 7) = .pointer (some ⟨g4, 2, none⟩) := hV 7 (Nat.le_of_ble_eq_true rfl)
              clear hV
              simp only [putAll]
              rw [d37, d38, d39, d40, d41, d44]
              clear d37 d38 d39 d40 d41 d44
              generalize vs 5 = v42 at *
              generalize vs 6 = v43 at *
              generalize vs 8 = vN8
              clear vs
              simp only [Act.put, List.setIfInBounds_toArray, List.set_cons_zero, List.set_cons_succ]
              obtain ⟨vP', hS⟩ := hS
              have S1 := Aside0.mk hS
              clear hS hC d42 d43 GW S
              go_wp2_with fail
              have GW : Aside0 (∀ b', w7.heap.size ≤ b' → some b' ≠ vP'.ownBlock ∧ some b' ≠ vC.ownBlock ∧ b' ≠ g4) := ⟨fun b' hb' => ⟨fun e => by have := Kd.R_lt S1.out.2.1 _ e.symm; omega, fun e => by have := Kd.R_lt S1.out.2.2.1 _ e.symm; omega, fun e => by have := S1.out.1.lt (i := 0) rfl; omega⟩⟩
              refine regionS (W := w7)
                [fun _ v => v = .pointer (some ⟨g4, 3, none⟩),
                 fun _ v => v = vC,
                 fun _ v => v = .slice (some a5) l c5,
                 fun _ v => v = .slice A15 4 (c5 - 1),
                 fun _ v => v = .int .u64 vv,
                 fun _ v => v = .int .u32 vv,
                 fun _ v => v = .int .i32 x0,
                 fun _ v => v = .slice (some a5) l c5,
                 fun _ v => v = .slice A59 4 (c5 - 5),
                 fun _ v => v = .int .u64 mk,
                 fun _ v => v = .int .u32 mk,
                 fun _ v => v = .agg #[.int .i32 x0, .int .u32 mk],
                 fun (w : World) (v : Value) => ∃ bl, v = .slice (some ⟨bl, 0, none⟩) 1 1 ∧ w7.heap.size ≤ bl ∧ w.heap[bl]? = some (.cells #[.int .i32 x0, .int .u32 mk] 89 (0, 0)),
                 fun _ _ => True,
                 fun _ v => v = .pointer (some ⟨g4, 3, none⟩),
                 fun _ _ => True]
                [13, 15]
                (fun t => match t with | 0 => fun (rs : List Value) (w : World) => RSt B g4 w00 w tk hs vP' vC vP' vC (P ++ [b]) R | 1 => fun (rs : List Value) (w : World) => RSt B g4 w00 w tk hs vP' vC vP' (rs.getD 0 undef) (P ++ [b]) (R ++ [⟨x0, mk⟩]) | 2 => fun (rs : List Value) (w : World) => ∃ u, RSt B g4 w00 w tk hs vP' u vP' u (P ++ [b]) (R ++ [⟨x0, mk⟩]) | _ => fun _ _ => False)
                (fun _ w w' => ∀ b', w7.heap.size ≤ b' → b' < w.heap.size → w'.heap[b']? = w.heap[b']?) (fun w => w7.heap.size ≤ w.heap.size ∧ Below B w00 w)
                (fun j =>  none)
                [(0, some 45), (1, some 46), (2, some 47), (3, some 48), (4, some 49), (5, some 50), (6, some 51), (7, some 52), (8, some 53), (9, some 54), (10, some 55), (11, some 56), (12, some 57), (13, some 58), (14, some 59), (15, none)]
                []
                (by kernel_rfl) (by kernel_rfl) (by kernel_rfl) (by kernel_rfl) (by kernel_rfl) ?z8_3c ?z8_3i ?z8_3b ?z8_3d ?z8_3g ⟨?z8_3t0, ?z8_3t1, ?z8_3t2, ?z8_3t3, ?z8_3t4, ?z8_3t5, ?z8_3t6, ?z8_3t7, ?z8_3t8, ?z8_3t9, ?z8_3t10, ?z8_3t11, ?z8_3t12, ?z8_3t13, ?z8_3t14, ?z8_3t15, trivial⟩ ⟨?z8_3o0, ?z8_3o1, ?z8_3o2, ?z8_3o3, ?z8_3o4, ?z8_3o5, ?z8_3o6, ?z8_3o7, ?z8_3o8, ?z8_3o9, ?z8_3o10, ?z8_3o11, ?z8_3o12, ?z8_3o13, ?z8_3o14, ?z8_3o15, trivial⟩ ?z8_3e
              case z8_3c => exact ⟨Nat.le_refl _, (S1.out.below (below_drew (Below.refl _ _))).1.bel⟩
              case z8_3i => exact (S1.out.below (below_drew (Below.refl _ _)))
              case z8_3b => intro w w' hb h; exact ⟨Nat.le_trans h.1 hb.size, h.2.trans (hb.mono (Nat.le_trans S1.out.le h.1))⟩
              case z8_3d =>
                intro t rs w w' hb h
                match t, h with
                | 0, h => (replace h : RSt B g4 w00 w tk hs vP' vC vP' vC (P ++ [b]) R := h); show RSt B g4 w00 w' tk hs vP' vC vP' vC (P ++ [b]) R; first | exact RSt.below h hb | (obtain ⟨u, h⟩ := h; exact ⟨u, RSt.below h hb⟩)
                | 1, h => (replace h : RSt B g4 w00 w tk hs vP' vC vP' (rs.getD 0 undef) (P ++ [b]) (R ++ [⟨x0, mk⟩]) := h); show RSt B g4 w00 w' tk hs vP' vC vP' (rs.getD 0 undef) (P ++ [b]) (R ++ [⟨x0, mk⟩]); first | exact RSt.below h hb | (obtain ⟨u, h⟩ := h; exact ⟨u, RSt.below h hb⟩)
                | 2, h => (replace h : ∃ u, RSt B g4 w00 w tk hs vP' u vP' u (P ++ [b]) (R ++ [⟨x0, mk⟩]) := h); show ∃ u, RSt B g4 w00 w' tk hs vP' u vP' u (P ++ [b]) (R ++ [⟨x0, mk⟩]); first | exact RSt.below h hb | (obtain ⟨u, h⟩ := h; exact ⟨u, RSt.below h hb⟩)
                | _ + 3, h => exact h.elim
              case z8_3g =>
                intro j hj; cases hj
              case z8_3t0 => exact StabS.const _ _ _ _
              case z8_3t1 => exact StabS.const _ _ _ _
              case z8_3t2 => exact StabS.const _ _ _ _
              case z8_3t3 => exact StabS.const _ _ _ _
              case z8_3t4 => exact StabS.const _ _ _ _
              case z8_3t5 => exact StabS.const _ _ _ _
              case z8_3t6 => exact StabS.const _ _ _ _
              case z8_3t7 => exact StabS.const _ _ _ _
              case z8_3t8 => exact StabS.const _ _ _ _
              case z8_3t9 => exact StabS.const _ _ _ _
              case z8_3t10 => exact StabS.const _ _ _ _
              case z8_3t11 => exact StabS.const _ _ _ _
              case z8_3t12 => exact ⟨(by intro w w' v hb h; (obtain ⟨bl, h1, h2, h3⟩ := h; exact ⟨bl, h1, h2, blk_below h3 hb⟩)), (by intro k hk hne w w' v ht h; (obtain ⟨bl, h1, h2, h3⟩ := h; exact ⟨bl, h1, h2, (ht bl h2 (blk_lt h3)).trans h3⟩))⟩
              case z8_3t13 => exact StabS.const _ _ _ _
              case z8_3t14 => exact StabS.const _ _ _ _
              case z8_3t15 => exact StabS.const _ _ _ _
              case z8_3o0 =>
                intro vs w t hC ht1 ht2 hS hV
                rw [if_pos (by kernel_rfl)]
                generalize hρ : rho _ _ _ vs = ρ
                have e4 : ρ (.tmp 4) = .pointer (some ⟨g4, 0, none⟩) := by rw [← hρ]; kernel_rfl
                clear hρ hV
                refine runs_val (v := .pointer (some ⟨g4, 3, none⟩)) (w' := w) ?_ ⟨Below.refl _ _, rfl⟩
                clear ht1 ht2 hS hC
                go_simp <;> (first | exact IntWalk.u64_in _ (by omega) | exact IntWalk.u32_in _ (by omega) | exact IntWalk.u16_in _ (by omega) | exact IntWalk.u8_in _ (by omega) | exact IntWalk.i64_in _ (by omega) | skip)
              case z8_3o1 =>
                intro vs w t hC ht1 ht2 hS hV
                rw [if_pos (by kernel_rfl)]
                generalize hρ : rho _ _ _ vs = ρ
                have d45 : (vs 0) = .pointer (some ⟨g4, 3, none⟩) := hV 0 (by kernel_rfl)
                have e45 : ρ (.tmp 45) = vs 0 := by rw [← hρ]; kernel_rfl
                rw [d45] at e45; clear d45
                clear hρ hV
                have ht0 : t ≤ 0 := by
                  rcases Nat.lt_or_ge 0 t with hq | hq
                  · exact absurd (ht1 0 13 _ hq rfl rfl) (by decide +kernel)
                  · exact hq
                rcases (show t = 0 by omega) with rfl
                · replace hS : RSt B g4 w00 w tk hs vP' vC vP' vC (P ++ [b]) R := hS
                  have c0 := RSt.cellC hS
                  refine runs_val (v := vC) (w' := w) ?_ ⟨Below.refl _ _, rfl⟩
                  clear ht1 ht2 hS hC
                  go_simp
              case z8_3o2 =>
                intro vs w t hC ht1 ht2 hS hV
                rw [if_pos (by kernel_rfl)]
                generalize hρ : rho _ _ _ vs = ρ
                have e5 : ρ (.tmp 5) = .slice (some a5) l c5 := by rw [← hρ]; kernel_rfl
                clear hρ hV
                refine runs_val (v := .slice (some a5) l c5) (w' := w) ?_ ⟨Below.refl _ _, rfl⟩
                clear ht1 ht2 hS hC
                go_simp <;> (first | exact IntWalk.u64_in _ (by omega) | exact IntWalk.u32_in _ (by omega) | exact IntWalk.u16_in _ (by omega) | exact IntWalk.u8_in _ (by omega) | exact IntWalk.i64_in _ (by omega) | skip)
              case z8_3o3 =>
                intro vs w t hC ht1 ht2 hS hV
                rw [if_pos (by kernel_rfl)]
                generalize hρ : rho _ _ _ vs = ρ
                have d47 : (vs 2) = .slice (some a5) l c5 := hV 2 (by kernel_rfl)
                have e47 : ρ (.tmp 47) = vs 2 := by rw [← hρ]; kernel_rfl
                rw [d47] at e47; clear d47
                have econ : ∀ v : Value, ρ (.const v) = v := fun v => by rw [← hρ]; rfl
                clear hρ hV
                have q1 := P1.out w
                exact runs_slice 39 (.tmp 47) (some (.const (.int .i64 1))) (some (.const (.int .i64 5))) none rfl Try.underlying39 (by simp only [Option.map_some, Option.map_none, e47, econ]; exact q1) ⟨Below.refl _ _, rfl⟩
              case z8_3o4 =>
                intro vs w t hC ht1 ht2 hS hV
                rw [if_pos (by kernel_rfl)]
                generalize hρ : rho _ _ _ vs = ρ
                have d48 : (vs 3) = .slice A15 4 (c5 - 1) := hV 3 (by kernel_rfl)
                have e48 : ρ (.tmp 48) = vs 3 := by rw [← hρ]; kernel_rfl
                rw [d48] at e48; clear d48
                have ef53 : ρ (.func 53) = .func (.func 53) #[] #[] := by rw [← hρ]; rfl
                clear hρ hV
                refine runs_call (f := 53) (args := #[.slice A15 4 (c5 - 1)]) (w' := w) ?_ ?_
                · clear ht1 ht2 hS hC; go_simp
                · refine (value_any A15 4 (c5 - 1) _ w (P2.out w hC.2) HCL.out.1 (by omega) (((HBQ.out.drop 9).drop (9 * i + 1)).take 4)).mono ?_
                  rintro e w5 ⟨rfl, hb5⟩
                  exact ⟨_, rfl, hb5.below, congrArg (Value.int .u64) HV.out.1⟩
              case z8_3o5 =>
                intro vs w t hC ht1 ht2 hS hV
                rw [if_pos (by kernel_rfl)]
                generalize hρ : rho _ _ _ vs = ρ
                have d49 : (vs 4) = .int .u64 vv := hV 4 (by kernel_rfl)
                have e49 : ρ (.tmp 49) = vs 4 := by rw [← hρ]; kernel_rfl
                rw [d49] at e49; clear d49
                clear hρ hV
                have ix := HVU.out.1
                refine runs_val (v := .int .u32 vv) (w' := w) ?_ ⟨Below.refl _ _, rfl⟩
                clear ht1 ht2 hS hC
                go_simp
                try exact ix
              case z8_3o6 =>
                intro vs w t hC ht1 ht2 hS hV
                rw [if_pos (by kernel_rfl)]
                generalize hρ : rho _ _ _ vs = ρ
                have d50 : (vs 5) = .int .u32 vv := hV 5 (by kernel_rfl)
                have e50 : ρ (.tmp 50) = vs 5 := by rw [← hρ]; kernel_rfl
                rw [d50] at e50; clear d50
                clear hρ hV
                have ix := HV.out.2.2
                refine runs_val (v := .int .i32 x0) (w' := w) ?_ ⟨Below.refl _ _, rfl⟩
                clear ht1 ht2 hS hC
                rw [← ix]
                clear ix
                go_simp
                try first | rfl | (rw [IntKind.wrap_i32]; rfl) | (rw [IntKind.wrap_i32]; unfold wrap32; omega)
              case z8_3o7 =>
                intro vs w t hC ht1 ht2 hS hV
                rw [if_pos (by kernel_rfl)]
                generalize hρ : rho _ _ _ vs = ρ
                have e5 : ρ (.tmp 5) = .slice (some a5) l c5 := by rw [← hρ]; kernel_rfl
                clear hρ hV
                refine runs_val (v := .slice (some a5) l c5) (w' := w) ?_ ⟨Below.refl _ _, rfl⟩
                clear ht1 ht2 hS hC
                go_simp <;> (first | exact IntWalk.u64_in _ (by omega) | exact IntWalk.u32_in _ (by omega) | exact IntWalk.u16_in _ (by omega) | exact IntWalk.u8_in _ (by omega) | exact IntWalk.i64_in _ (by omega) | skip)
              case z8_3o8 =>
                intro vs w t hC ht1 ht2 hS hV
                rw [if_pos (by kernel_rfl)]
                generalize hρ : rho _ _ _ vs = ρ
                have d52 : (vs 7) = .slice (some a5) l c5 := hV 7 (by kernel_rfl)
                have e52 : ρ (.tmp 52) = vs 7 := by rw [← hρ]; kernel_rfl
                rw [d52] at e52; clear d52
                have econ : ∀ v : Value, ρ (.const v) = v := fun v => by rw [← hρ]; rfl
                clear hρ hV
                have q1 := R1.out w
                exact runs_slice 39 (.tmp 52) (some (.const (.int .i64 5))) (some (.const (.int .i64 9))) none rfl Try.underlying39 (by simp only [Option.map_some, Option.map_none, e52, econ]; exact q1) ⟨Below.refl _ _, rfl⟩
              case z8_3o9 =>
                intro vs w t hC ht1 ht2 hS hV
                rw [if_pos (by kernel_rfl)]
                generalize hρ : rho _ _ _ vs = ρ
                have d53 : (vs 8) = .slice A59 4 (c5 - 5) := hV 8 (by kernel_rfl)
                have e53 : ρ (.tmp 53) = vs 8 := by rw [← hρ]; kernel_rfl
                rw [d53] at e53; clear d53
                have ef53 : ρ (.func 53) = .func (.func 53) #[] #[] := by rw [← hρ]; rfl
                clear hρ hV
                refine runs_call (f := 53) (args := #[.slice A59 4 (c5 - 5)]) (w' := w) ?_ ?_
                · clear ht1 ht2 hS hC; go_simp
                · refine (value_any A59 4 (c5 - 5) _ w (R2.out w hC.2) HCL.out.2.1 (by omega) (((HBQ.out.drop 9).drop (9 * i + 5)).take 4)).mono ?_
                  rintro e w5 ⟨rfl, hb5⟩
                  exact ⟨_, rfl, hb5.below, congrArg (Value.int .u64) HV.out.2.1⟩
              case z8_3o10 =>
                intro vs w t hC ht1 ht2 hS hV
                rw [if_pos (by kernel_rfl)]
                generalize hρ : rho _ _ _ vs = ρ
                have d54 : (vs 9) = .int .u64 mk := hV 9 (by kernel_rfl)
                have e54 : ρ (.tmp 54) = vs 9 := by rw [← hρ]; kernel_rfl
                rw [d54] at e54; clear d54
                clear hρ hV
                have ix := HVU.out.2
                refine runs_val (v := .int .u32 mk) (w' := w) ?_ ⟨Below.refl _ _, rfl⟩
                clear ht1 ht2 hS hC
                go_simp
                try exact ix
              case z8_3o11 =>
                intro vs w t hC ht1 ht2 hS hV
                rw [if_pos (by kernel_rfl)]
                generalize hρ : rho _ _ _ vs = ρ
                have d51 : (vs 6) = .int .i32 x0 := hV 6 (by kernel_rfl)
                have e51 : ρ (.tmp 51) = vs 6 := by rw [← hρ]; kernel_rfl
                rw [d51] at e51; clear d51
                have d55 : (vs 10) = .int .u32 mk := hV 10 (by kernel_rfl)
                have e55 : ρ (.tmp 55) = vs 10 := by rw [← hρ]; kernel_rfl
                rw [d55] at e55; clear d55
                clear hρ hV
                refine runs_val (v := .agg #[.int .i32 x0, .int .u32 mk]) (w' := w) ?_ ⟨Below.refl _ _, rfl⟩
                clear ht1 ht2 hS hC
                go_simp <;> (first | exact IntWalk.u64_in _ (by omega) | exact IntWalk.u32_in _ (by omega) | exact IntWalk.u16_in _ (by omega) | exact IntWalk.u8_in _ (by omega) | exact IntWalk.i64_in _ (by omega) | skip)
              case z8_3o12 =>
                intro vs w t hC ht1 ht2 hS hV
                rw [if_pos (by kernel_rfl)]
                generalize hρ : rho _ _ _ vs = ρ
                have d56 : (vs 11) = .agg #[.int .i32 x0, .int .u32 mk] := hV 11 (by kernel_rfl)
                have e56 : ρ (.tmp 56) = vs 11 := by rw [← hρ]; kernel_rfl
                rw [d56] at e56; clear d56
                clear hρ hV
                refine runs_val (v := .slice (some ⟨w.heap.size, 0, none⟩) 1 1) (w' := w.alloc (.cells #[.int .i32 x0, .int .u32 mk] 89)) ?_ ⟨below_alloc (Below.refl _ _) _, ⟨w.heap.size, rfl, hC.1, blk_new _ _⟩⟩
                clear ht1 ht2 hS hC
                go_simp
              case z8_3o13 =>
                intro vs w hC hS hV
                replace hS : RSt B g4 w00 w tk hs vP' vC vP' vC (P ++ [b]) R := hS
                rw [if_pos (by kernel_rfl)]
                generalize hρ : rho _ _ _ vs = ρ
                have d46 : (vs 1) = vC := hV 1 (by kernel_rfl)
                have e46 : ρ (.tmp 46) = vs 1 := by rw [← hρ]; kernel_rfl
                rw [d46] at e46; clear d46
                have d57 : (fun (w : World) (v : Value) => ∃ bl, v = .slice (some ⟨bl, 0, none⟩) 1 1 ∧ w7.heap.size ≤ bl ∧ w.heap[bl]? = some (.cells #[.int .i32 x0, .int .u32 mk] 89 (0, 0))) w (vs 12) := hV 12 (by kernel_rfl)
                have e57 : ρ (.tmp 57) = vs 12 := by rw [← hρ]; kernel_rfl
                obtain ⟨bl, hve57, hbl1, hbl2⟩ := d57
                clear hρ hV
                rw [hve57] at e57
                refine runs_append k89 (Rr := fun x cs => cs = [.int .i32 x.f0, .int .u32 x.f1]) B 46 57 56 89 (.agg #[.int .i32 0, .int .u32 0]) 8 rfl Try.underlying56 rcell_full rfl (by decide) (by decide) vC R [⟨x0, mk⟩] (some ⟨bl, 0, none⟩) 1 1 (fun _ => True) (fun _ => False) e46 e57 hS.2.2.1 (C_one_cellR (x := ⟨x0, mk⟩) hbl2) (fun y cs h => by rw [h]; exact k89_mkM _ _ _ y) (fun _ h => h.elim) (fun _ _ => trivial) hS.le (by have := HPL.out; omega) ?_
                intro v1 w1 h1 hg1 hat
                exact ⟨⟨Nat.le_trans hC.1 hg1.size, (hS.rowC hg1 h1).1.bel⟩, (fun b' h1 h2 => hg1.block b' h2 (GW.out b' h1).2.1), trivial, hS.rowC hg1 h1⟩
              case z8_3o14 =>
                intro vs w t hC ht1 ht2 hS hV
                rw [if_pos (by kernel_rfl)]
                generalize hρ : rho _ _ _ vs = ρ
                have e4 : ρ (.tmp 4) = .pointer (some ⟨g4, 0, none⟩) := by rw [← hρ]; kernel_rfl
                clear hρ hV
                refine runs_val (v := .pointer (some ⟨g4, 3, none⟩)) (w' := w) ?_ ⟨Below.refl _ _, rfl⟩
                clear ht1 ht2 hS hC
                go_simp <;> (first | exact IntWalk.u64_in _ (by omega) | exact IntWalk.u32_in _ (by omega) | exact IntWalk.u16_in _ (by omega) | exact IntWalk.u8_in _ (by omega) | exact IntWalk.i64_in _ (by omega) | skip)
              case z8_3o15 =>
                intro vs w hC hS hV
                replace hS : RSt B g4 w00 w tk hs vP' vC vP' (vs 13) (P ++ [b]) (R ++ [⟨x0, mk⟩]) := hS
                rw [if_pos (by kernel_rfl)]
                generalize hρ : rho _ _ _ vs = ρ
                have d59 : (vs 14) = .pointer (some ⟨g4, 3, none⟩) := hV 14 (by kernel_rfl)
                have e59 : ρ (.tmp 59) = vs 14 := by rw [← hρ]; kernel_rfl
                rw [d59] at e59; clear d59
                have d58 : (fun (w : World) (v : Value) => True) w (vs 13) := hV 13 (by kernel_rfl)
                have e58 : ρ (.tmp 58) = vs 13 := by rw [← hρ]; kernel_rfl
                clear hρ hV
                have hS2 := hS.setC
                obtain ⟨A5, c5, hs5⟩ := Kd.R_slice hS.2.2.1
                have f0 := blk_frozen (hS.1.get (i := 0) rfl) 3
                have c0 := RSt.cellC hS
                refine runs_skip (w' := w.setCell ⟨g4, 3, none⟩ (vs 13)) ?_ ⟨⟨Nat.le_trans hC.1 (by simp [World.setCell]), hS2.1.bel⟩, (fun b' h1 h2 => Below.heap_setCell _ _ _ _ (GW.out b' h1).2.2), trivial, ⟨_, hS2⟩⟩
                rw [hs5] at e58
                rw [hs5]
                clear hS hS2 hC d58 hs5
                go_simp
              case z8_3e =>
                intro vs w8 hC hS hV
                replace hS : (fun (w : World) => ∃ u, RSt B g4 w00 w tk hs vP' u vP' u (P ++ [b]) (R ++ [⟨x0, mk⟩])) w8 := hS
                have d45 : (vs 0) = .pointer (some ⟨g4, 3, none⟩) := hV 0 (Nat.le_of_ble_eq_true rfl)
                have d46 : (vs 1) = vC := hV 1 (Nat.le_of_ble_eq_true rfl)
                have d47 : (vs 2) = .slice (some a5) l c5 := hV 2 (Nat.le_of_ble_eq_true rfl)
                have d48 : (vs 3) = .slice A15 4 (c5 - 1) := hV 3 (Nat.le_of_ble_eq_true rfl)
                have d49 : (vs 4) = .int .u64 vv := hV 4 (Nat.le_of_ble_eq_true rfl)
                have d50 : (vs 5) = .int .u32 vv := hV 5 (Nat.le_of_ble_eq_true rfl)
                have d51 : (vs 6) = .int .i32 x0 := hV 6 (Nat.le_of_ble_eq_true rfl)
                have d52 : (vs 7) = .slice (some a5) l c5 := hV 7 (Nat.le_of_ble_eq_true rfl)
                have d53 : (vs 8) = .slice A59 4 (c5 - 5) := hV 8 (Nat.le_of_ble_eq_true rfl)
                have d54 : (vs 9) = .int .u64 mk := hV 9 (Nat.le_of_ble_eq_true rfl)
                have d55 : (vs 10) = .int .u32 mk := hV 10 (Nat.le_of_ble_eq_true rfl)
                have d56 : (vs 11) = .agg #[.int .i32 x0, .int .u32 mk] := hV 11 (Nat.le_of_ble_eq_true rfl)
                have d57 : (fun (w : World) (v : Value) => ∃ bl, v = .slice (some ⟨bl, 0, none⟩) 1 1 ∧ w7.heap.size ≤ bl ∧ w.heap[bl]? = some (.cells #[.int .i32 x0, .int .u32 mk] 89 (0, 0))) w8 (vs 12) := hV 12 (Nat.le_of_ble_eq_true rfl)
                have d58 : (fun (w : World) (v : Value) => True) w8 (vs 13) := hV 13 (Nat.le_of_ble_eq_true rfl)
                have d59 : (vs 14) = .pointer (some ⟨g4, 3, none⟩) := hV 14 (Nat.le_of_ble_eq_true rfl)
                clear hV
                simp only [putAll]
                rw [d45, d46, d47, d48, d49, d50, d51, d52, d53, d54, d55, d56, d59]
                clear d45 d46 d47 d48 d49 d50 d51 d52 d53 d54 d55 d56 d59
                generalize vs 12 = v57 at *
                generalize vs 13 = v58 at *
                generalize vs 15 = vN15
                clear vs
                simp only [Act.put, List.setIfInBounds_toArray, List.set_cons_zero, List.set_cons_succ]
                obtain ⟨vC', hS⟩ := hS
                have HE : Aside0 (RSt B g4 w00 w8 tk hs vP' vC' vP' vC' (pL (q.drop 9) (i + 1)) ((cL (q.drop 9) (i + 1)).map toR)) := ⟨by
                  rw [pL_succ, cL_succ, List.map_append, HPR.out.1, HPR.out.2, HROW.out, HRC.out]
                  exact hS⟩
                clear hS hC d57 d58 GW S1
                have o1 := O1.out
                have hl9 := HL9.out
                go_wp2_with fail
                go_roundw
                case rel => exact ⟨i + 1, by omega, l - 9, A90, c5 - 9, rfl, ⟨by have := H.out.1; have := HL9.out; omega, HCL.out.2.2, O2.out, _, _, HE.out⟩⟩
                case measure => simp only [lenV]; omega
          · obtain rfl : i = m := by omega
            have hl0 : l = 0 := by have := H.out.1; omega
            subst hl0
            obtain ⟨A1, c1, hv1, lc1, k1⟩ := Kd.R_reads hS.2.1
            obtain ⟨A2, c2, hv2, lc2, k2⟩ := Kd.R_reads hS.2.2.1
            have hDr : DrC wr tk hs (pL (q.drop 9) i) ((cL (q.drop 9) i).map toR) (.agg #[.int .u32 tk, .int .u32 hs, vP, vC]) := ⟨A1, c1, A2, c2, by rw [hv1, hv2], lc1, lc2, k1, k2⟩
            have HDR : Aside0 (RfR B wr tk hs (pL (q.drop 9) i) ((cL (q.drop 9) i).map toR) (.agg #[.int .u32 tk, .int .u32 hs, vP, vC])) := ⟨⟨A1, c1, A2, c2, by rw [hv1, hv2], lc1, lc2, by rw [← hv1]; exact hS.2.1, by rw [← hv2]; exact hS.2.2.1⟩⟩
            have KRT := Aside0.mk (rright_any tk hs _ _ _ wr hDr (pL_bytes (HBQ.out.drop 9) i) (by rw [pL_len]; have := HM.out; omega))
            have hok : okD q = rightB (pL (q.drop 9) i) ((cL (q.drop 9) i).map toR).length := by
              unfold okD rightB
              rw [HM.out.1, decide_eq_true (p := 9 ≤ q.length ∧ q.length = 9 + 9 * i) (by have := HQL.out; have := HNE.out; omega), List.length_map, pL_len, cL_len]
              simp
            obtain ⟨β, hβ⟩ : ∃ β, rightB (pL (q.drop 9) i) ((cL (q.drop 9) i).map toR).length = β := ⟨_, rfl⟩
            rw [hβ] at KRT hok
            have HOK := Aside0.mk hok
            have HP := Aside0.mk hS.1
            clear hS H k1 k2 lc1 lc2 hDr hok hβ S hlt hi
            subst hv1 hv2
            obtain ⟨pn, hpn⟩ : ∃ pn, (pL (q.drop 9) i).length = pn := ⟨_, rfl⟩
            obtain ⟨cn, hcn⟩ : ∃ cn, ((cL (q.drop 9) i).map toR).length = cn := ⟨_, rfl⟩
            rw [hpn, hcn] at HDR KRT HP
            clear hpn hcn
            go_wp2_with (first | (refine wpList_load_row_g 58 (.tmp 4) rfl g4 rfl rfl 58 _ (0, 0) _ (HP.out.get (i := 0) rfl) Try.underlying58 rfl (rdelta_info _ _ _ _) ?_))
            refine KRT.out.mono ?_
            rintro e w3 ⟨rfl, hb3⟩
            have HP3 := Aside0.mk (HP.out.call hb3)
            have HD3 := Aside0.mk (HDR.out.belowR hb3)
            clear hb3 HP HDR KRT
            have hzd := zero_rdelta
            cases β with
            | false =>
              go_wp2_with (first | (refine wpList_store_row rfl 58 (.tmp 2) (.tmp 63) rfl B #[.int .u32 0, .int .u32 0, .slice none 0 0, .slice none 0 0] rfl rfl 58 _ (HP3.out.get (i := 1) rfl) (rdelta_info _ _ _ _) rfl (by simp [Value.oneCell']) ?_))
              have H9 := Aside0.mk (HP3.out.setRow (i := 1) rfl #[.int .u32 0, .int .u32 0, .slice none 0 0, .slice none 0 0])
              refine bodyPost_ret (results_ct rfl _ _ B _ #[.int .u32 0, .int .u32 0, .slice none 0 0, .slice none 0 0] (0, 0) _ rfl (H9.out.get (i := 1) rfl) Try.underlying58 rfl (rdelta_info _ _ _ _)) rfl ?_
              refine ⟨?_, H9.out.bel⟩
              unfold RParseR
              rw [HOK.out]
              rfl
            | true =>
              go_wp2_with (first | (refine wpList_load_row_g 58 (.tmp 4) rfl g4 rfl rfl 58 _ (0, 0) _ (HP3.out.get (i := 0) rfl) Try.underlying58 rfl (rdelta_info _ _ _ _) ?_) | (refine wpList_store_row rfl 58 (.tmp 2) (.tmp 64) rfl B #[.int .u32 tk, .int .u32 hs, .slice A1 pn c1, .slice A2 cn c2] rfl rfl 58 _ (HP3.out.get (i := 1) rfl) (rdelta_info _ _ _ _) rfl (by simp [Value.oneCell']) ?_))
              have H9 := Aside0.mk (HP3.out.setRow (i := 1) rfl #[.int .u32 tk, .int .u32 hs, .slice A1 pn c1, .slice A2 cn c2])
              have HD9 := Aside0.mk (HD3.out.setRowB (h1 := by decide) (h2 := by decide) (hg := HP3.out.get (i := 1) rfl) (cs := #[.int .u32 tk, .int .u32 hs, .slice A1 pn c1, .slice A2 cn c2]))
              refine bodyPost_ret (results_ct rfl _ _ B _ #[.int .u32 tk, .int .u32 hs, .slice A1 pn c1, .slice A2 cn c2] (0, 0) _ rfl (H9.out.get (i := 1) rfl) Try.underlying58 rfl (rdelta_info _ _ _ _)) rfl ?_
              refine ⟨?_, H9.out.bel⟩
              unfold RParseR
              rw [HOK.out, if_pos rfl, HTH.out.1, HTH.out.2, HM.out.1]
              exact ⟨_, rfl, HD9.out.cells⟩
    · have dne : decide ((n : Int) = 9 + 9 * m) = false := decide_eq_false (by omega)
      have dne2 : (n : Int) ≠ 9 + 9 * m := by omega
      have HOK : Aside0 (okD q = false) := ⟨by
        unfold okD
        rw [Bool.and_eq_false_iff]
        left
        rw [decide_eq_false_iff_not]
        have := HQL.out
        have := HM.out
        omega⟩
      go_wp2_with (first | (refine wpList_store_row rfl 58 (.tmp 2) (.tmp 20) rfl B #[.int .u32 0, .int .u32 0, .slice none 0 0, .slice none 0 0] rfl rfl 58 _ (H0.out.get (i := 0) rfl) (rdelta_info _ _ _ _) rfl (by simp [Value.oneCell']) ?_))
      have H9 := Aside0.mk (H0.out.setRow (i := 0) rfl #[.int .u32 0, .int .u32 0, .slice none 0 0, .slice none 0 0])
      refine bodyPost_ret (results_ct rfl _ _ B _ #[.int .u32 0, .int .u32 0, .slice none 0 0, .slice none 0 0] (0, 0) _ rfl (H9.out.get (i := 0) rfl) Try.underlying58 rfl (rdelta_info _ _ _ _)) rfl ?_
      refine ⟨?_, H9.out.bel⟩
      unfold RParseR
      rw [HOK.out]
      rfl
end Go.Proofs.Ytkhlalpkkmjfnaa

namespace Go.Proofs.Ytkhlalpkkmjfnaa
open Go.RowKit Go.Proofs.YtkhlalpkkmjfnaaW.PrintWords Go.Proofs.YtkhlalpkkmjfnaaW.PrintLast Go.Proofs.YtkhlalpkkmjfnaaW.PrintMore
set_option linter.unusedVariables false
set_option linter.unusedSimpArgs false

set_option maxRecDepth 100000 in
set_option maxHeartbeats 8000000 in
theorem cequal_any (A A2 : Option Addr) (n c c2 : Nat) (L : List S30) (w00 : World) (h1 : k30.C w00 A n L) (hc : n ≤ c) (h2 : k30.C w00 A2 n L) (hc2 : n ≤ c2) (hn : n ≤ 1000000) :
    Calls Try.prog 52 #[.slice A n c, .slice A2 n c2] w00 fun e w' => e = .returned (.bool true) ∧ Below w00.heap.size w00 w' := by
  have HL := Aside0.mk h1.1
  have HN := Aside0.mk hn
  have HF : Aside0 (∀ z, Below w00.heap.size w00 z → k30.C z A n L ∧ k30.C z A2 n L) := ⟨fun z hz => ⟨Kd.C_below h1 hz, Kd.C_below h2 hz⟩⟩
  clear h1 hc h2 hc2 hn
  obtain ⟨B, hB⟩ : ∃ B, w00.heap.size = B := ⟨_, rfl⟩
  have HB := Aside0.mk hB
  rw [hB] at HF
  rw [hB]
  clear hB
  go_enter Try.func52, Try.ntmps52
  go_wp2_with fail
  have H0 : Aside0 (Below B w00 w00 ∧ B ≤ w00.heap.size) := ⟨Below.refl _ _, by rw [HB.out]; exact Nat.le_refl _⟩
  go_loopw [13] (fun v13 wr => ∃ i : Nat, i ≤ n ∧ v13 = .int .i64 i ∧ Aside0 (Below B w00 wr ∧ B ≤ wr.heap.size)) (fun v13 _ => n - (intOf v13).toNat)
  case atStart => exact ⟨0, by omega, rfl, H0⟩
  case round =>
    clear H0
    obtain ⟨i, hi, rfl, H⟩ := hrel
    by_cases hlt : i < n
    · have d1 : decide (i < n) = true := decide_eq_true hlt
      have hiL : i < L.length := by rw [HL.out]; exact hlt
      obtain ⟨a, hA, p0, p1⟩ := cell_at25 (HF.out wr H.out.1).1 hiL
      obtain ⟨a2, hA2, q0, q1⟩ := cell_at25 (HF.out wr H.out.1).2 hiL
      subst hA hA2
      generalize L[i] = x at p0 p1 q0 q1
      obtain ⟨x0, x1⟩ := x
      have hi0 : (0 : Int) ≤ i := by omega
      have hin : (i : Int) < n := by omega
      have PP := Aside0.mk (And.intro p0 (And.intro p1 (And.intro q0 q1)))
      clear p0 p1 q0 q1
      go_wp2_with fail
      refine region_grown (W := wr)
        [fun (w : World) (v : Value) => v = .slice (some a) n c,
         fun (w : World) (v : Value) => v = .int .i64 i,
         fun (w : World) (v : Value) => v = .pointer (some (a.add (i * 2))),
         fun (w : World) (v : Value) => v = .agg #[.int .i32 x0, .int .u32 x1],
         fun (w : World) (v : Value) => v = .slice (some a2) n c2,
         fun (w : World) (v : Value) => v = .int .i64 i,
         fun (w : World) (v : Value) => v = .pointer (some (a2.add (i * 2))),
         fun (w : World) (v : Value) => v = .agg #[.int .i32 x0, .int .u32 x1],
         fun (w : World) (v : Value) => v = .bool false]
        (fun j =>  none)
        [(0, some 16), (1, some 17), (2, some 18), (3, some 19), (4, some 20), (5, some 21), (6, some 22), (7, some 23), (8, some 24)]
        []
        (by kernel_rfl) (by kernel_rfl) (by kernel_rfl) (by kernel_rfl) ?r6_1g ?r6_1s ⟨?r6_1o0, ?r6_1o1, ?r6_1o2, ?r6_1o3, ?r6_1o4, ?r6_1o5, ?r6_1o6, ?r6_1o7, ?r6_1o8, trivial⟩ ?r6_1e
      case r6_1g =>
        intro j hj; cases hj
      case r6_1s =>
        refine ⟨(fun w w' v hb h => h), (fun w w' v hb h => h), (fun w w' v hb h => h), (fun w w' v hb h => h), (fun w w' v hb h => h), (fun w w' v hb h => h), (fun w w' v hb h => h), (fun w w' v hb h => h), (fun w w' v hb h => h), trivial⟩
      case r6_1o0 =>
        intro vs w hb hV
        rw [if_pos (by kernel_rfl)]
        generalize hρ : rho _ _ _ vs = ρ
        have e0 : ρ (.tmp 0) = .slice (some a) n c := by rw [← hρ]; kernel_rfl
        clear hρ hV
        refine runs_val (v := .slice (some a) n c) (w' := w) ?_ ⟨Below.refl _ _, rfl⟩
        go_simp <;> (first | exact IntWalk.u64_in _ (by omega) | exact IntWalk.u32_in _ (by omega) | exact IntWalk.u16_in _ (by omega) | exact IntWalk.u8_in _ (by omega) | exact IntWalk.i64_in _ (by omega) | skip)
      case r6_1o1 =>
        intro vs w hb hV
        rw [if_pos (by kernel_rfl)]
        generalize hρ : rho _ _ _ vs = ρ
        have e5 : ρ (.tmp 5) = .int .i64 i := by rw [← hρ]; kernel_rfl
        clear hρ hV
        refine runs_val (v := .int .i64 i) (w' := w) ?_ ⟨Below.refl _ _, rfl⟩
        go_simp <;> (first | exact IntWalk.u64_in _ (by omega) | exact IntWalk.u32_in _ (by omega) | exact IntWalk.u16_in _ (by omega) | exact IntWalk.u8_in _ (by omega) | exact IntWalk.i64_in _ (by omega) | skip)
      case r6_1o2 =>
        intro vs w hb hV
        rw [if_pos (by kernel_rfl)]
        generalize hρ : rho _ _ _ vs = ρ
        have d16 : (vs 0) = .slice (some a) n c := hV 0 (by kernel_rfl)
        have e16 : ρ (.tmp 16) = vs 0 := by rw [← hρ]; kernel_rfl
        rw [d16] at e16; clear d16
        have d17 : (vs 1) = .int .i64 i := hV 1 (by kernel_rfl)
        have e17 : ρ (.tmp 17) = vs 1 := by rw [← hρ]; kernel_rfl
        rw [d17] at e17; clear d17
        clear hρ hV
        refine runs_val (v := .pointer (some (a.add (i * 2)))) (w' := w) ?_ ⟨Below.refl _ _, rfl⟩
        go_simp <;> (first | exact IntWalk.u64_in _ (by omega) | exact IntWalk.u32_in _ (by omega) | exact IntWalk.u16_in _ (by omega) | exact IntWalk.u8_in _ (by omega) | exact IntWalk.i64_in _ (by omega) | skip)
      case r6_1o3 =>
        intro vs w hb hV
        rw [if_pos (by kernel_rfl)]
        generalize hρ : rho _ _ _ vs = ρ
        have d18 : (vs 2) = .pointer (some (a.add (i * 2))) := hV 2 (by kernel_rfl)
        have e18 : ρ (.tmp 18) = vs 2 := by rw [← hρ]; kernel_rfl
        rw [d18] at e18; clear d18
        clear hρ hV
        have c0 := pw_cell_below hb PP.out.1
        have c1 := pw_cell_below hb PP.out.2.1
        refine runs_val (v := .agg #[.int .i32 x0, .int .u32 x1]) (w' := w) ?_ ⟨Below.refl _ _, rfl⟩
        go_simp
      case r6_1o4 =>
        intro vs w hb hV
        rw [if_pos (by kernel_rfl)]
        generalize hρ : rho _ _ _ vs = ρ
        have e1 : ρ (.tmp 1) = .slice (some a2) n c2 := by rw [← hρ]; kernel_rfl
        clear hρ hV
        refine runs_val (v := .slice (some a2) n c2) (w' := w) ?_ ⟨Below.refl _ _, rfl⟩
        go_simp <;> (first | exact IntWalk.u64_in _ (by omega) | exact IntWalk.u32_in _ (by omega) | exact IntWalk.u16_in _ (by omega) | exact IntWalk.u8_in _ (by omega) | exact IntWalk.i64_in _ (by omega) | skip)
      case r6_1o5 =>
        intro vs w hb hV
        rw [if_pos (by kernel_rfl)]
        generalize hρ : rho _ _ _ vs = ρ
        have e5 : ρ (.tmp 5) = .int .i64 i := by rw [← hρ]; kernel_rfl
        clear hρ hV
        refine runs_val (v := .int .i64 i) (w' := w) ?_ ⟨Below.refl _ _, rfl⟩
        go_simp <;> (first | exact IntWalk.u64_in _ (by omega) | exact IntWalk.u32_in _ (by omega) | exact IntWalk.u16_in _ (by omega) | exact IntWalk.u8_in _ (by omega) | exact IntWalk.i64_in _ (by omega) | skip)
      case r6_1o6 =>
        intro vs w hb hV
        rw [if_pos (by kernel_rfl)]
        generalize hρ : rho _ _ _ vs = ρ
        have d20 : (vs 4) = .slice (some a2) n c2 := hV 4 (by kernel_rfl)
        have e20 : ρ (.tmp 20) = vs 4 := by rw [← hρ]; kernel_rfl
        rw [d20] at e20; clear d20
        have d21 : (vs 5) = .int .i64 i := hV 5 (by kernel_rfl)
        have e21 : ρ (.tmp 21) = vs 5 := by rw [← hρ]; kernel_rfl
        rw [d21] at e21; clear d21
        clear hρ hV
        refine runs_val (v := .pointer (some (a2.add (i * 2)))) (w' := w) ?_ ⟨Below.refl _ _, rfl⟩
        go_simp <;> (first | exact IntWalk.u64_in _ (by omega) | exact IntWalk.u32_in _ (by omega) | exact IntWalk.u16_in _ (by omega) | exact IntWalk.u8_in _ (by omega) | exact IntWalk.i64_in _ (by omega) | skip)
      case r6_1o7 =>
        intro vs w hb hV
        rw [if_pos (by kernel_rfl)]
        generalize hρ : rho _ _ _ vs = ρ
        have d22 : (vs 6) = .pointer (some (a2.add (i * 2))) := hV 6 (by kernel_rfl)
        have e22 : ρ (.tmp 22) = vs 6 := by rw [← hρ]; kernel_rfl
        rw [d22] at e22; clear d22
        clear hρ hV
        have c0 := pw_cell_below hb PP.out.2.2.1
        have c1 := pw_cell_below hb PP.out.2.2.2
        refine runs_val (v := .agg #[.int .i32 x0, .int .u32 x1]) (w' := w) ?_ ⟨Below.refl _ _, rfl⟩
        go_simp
      case r6_1o8 =>
        intro vs w hb hV
        rw [if_pos (by kernel_rfl)]
        generalize hρ : rho _ _ _ vs = ρ
        have d19 : (vs 3) = .agg #[.int .i32 x0, .int .u32 x1] := hV 3 (by kernel_rfl)
        have e19 : ρ (.tmp 19) = vs 3 := by rw [← hρ]; kernel_rfl
        rw [d19] at e19; clear d19
        have d23 : (vs 7) = .agg #[.int .i32 x0, .int .u32 x1] := hV 7 (by kernel_rfl)
        have e23 : ρ (.tmp 23) = vs 7 := by rw [← hρ]; kernel_rfl
        rw [d23] at e23; clear d23
        clear hρ hV
        refine runs_val (v := .bool false) (w' := w) ?_ ⟨Below.refl _ _, rfl⟩
        go_simp <;> (first | exact IntWalk.u64_in _ (by omega) | exact IntWalk.u32_in _ (by omega) | exact IntWalk.u16_in _ (by omega) | exact IntWalk.u8_in _ (by omega) | exact IntWalk.i64_in _ (by omega) | skip)
      case r6_1e =>
        intro vs w2 hb2 hV
        have d16 : (vs 0) = .slice (some a) n c := hV 0 (Nat.le_of_ble_eq_true rfl)
        have d17 : (vs 1) = .int .i64 i := hV 1 (Nat.le_of_ble_eq_true rfl)
        have d18 : (vs 2) = .pointer (some (a.add (i * 2))) := hV 2 (Nat.le_of_ble_eq_true rfl)
        have d19 : (vs 3) = .agg #[.int .i32 x0, .int .u32 x1] := hV 3 (Nat.le_of_ble_eq_true rfl)
        have d20 : (vs 4) = .slice (some a2) n c2 := hV 4 (Nat.le_of_ble_eq_true rfl)
        have d21 : (vs 5) = .int .i64 i := hV 5 (Nat.le_of_ble_eq_true rfl)
        have d22 : (vs 6) = .pointer (some (a2.add (i * 2))) := hV 6 (Nat.le_of_ble_eq_true rfl)
        have d23 : (vs 7) = .agg #[.int .i32 x0, .int .u32 x1] := hV 7 (Nat.le_of_ble_eq_true rfl)
        have d24 : (vs 8) = .bool false := hV 8 (Nat.le_of_ble_eq_true rfl)
        clear hV
        simp only [putAll]
        rw [d16, d17, d18, d19, d20, d21, d22, d23, d24]
        clear d16 d17 d18 d19 d20 d21 d22 d23 d24
        clear vs
        simp only [Act.put, List.setIfInBounds_toArray, List.set_cons_zero, List.set_cons_succ]
        have HE : Aside0 (Below B w00 w2 ∧ B ≤ w2.heap.size) := ⟨H.out.1.trans (hb2.mono H.out.2), Nat.le_trans H.out.2 hb2.size⟩
        clear hb2 H PP
        go_wp2_with fail
        go_roundw
        case rel => exact ⟨i + 1, by omega, by rw [next64 (by have := HN.out; omega)], HE⟩
        case measure => rw [next64 (by have := HN.out; omega)]; simp [intOf]; omega
    · obtain rfl : i = n := by omega
      have d1 : decide (i < i) = false := decide_eq_false (by omega)
      go_wp2_with fail
      go_ret
      exact ⟨rfl, H.out.1⟩
end Go.Proofs.Ytkhlalpkkmjfnaa

namespace Go.Proofs.Ytkhlalpkkmjfnaa
open Go.RowKit Go.Proofs.YtkhlalpkkmjfnaaW.PrintWords Go.Proofs.YtkhlalpkkmjfnaaW.PrintLast Go.Proofs.YtkhlalpkkmjfnaaW.PrintMore
set_option linter.unusedVariables false
set_option linter.unusedSimpArgs false

theorem bequal_any (A B : Option Addr) (n c d : Nat) (P : List Int) (w : World) (h1 : (Kd.int .u8).C w A n P) (hc : n ≤ c) (h2 : (Kd.int .u8).C w B n P) (hd : n ≤ d) :
    Calls Try.prog 51 #[.slice A n c, .slice B n d] w fun e w' => e = .returned (.bool true) ∧ Below w.heap.size w w' := by
  obtain rfl := h1.1
  refine (bytes_Equal.calls A c P B d P true w h1 hc h2 hd (by unfold bytes_Equal.f; simp)).mono ?_
  rintro e w5 ⟨rfl, hb⟩
  exact ⟨rfl, by first | exact hb.below | exact hb⟩
set_option maxRecDepth 100000 in
set_option maxHeartbeats 8000000 in
theorem dsame_any (tk hs : Int) (P : List Int) (R : List S30) (v u : Value) (w00 : World) (hv : DvC w00 tk hs P R v) (hu : DvC w00 tk hs P R u) (hn : R.length ≤ 1000000) :
    Calls Try.prog 32 #[v, u] w00 fun e w' => e = .returned (.bool true) ∧ Below w00.heap.size w00 w' := by
  obtain ⟨A, c, A2, c2, rfl, h2, h3, h4, h5⟩ := hv
  obtain ⟨B, d, B2, d2, rfl, k2, k3, k4, k5⟩ := hu
  have HC := Aside0.mk (And.intro h2 (And.intro h3 (And.intro k2 k3)))
  have HN := Aside0.mk hn
  have HF : Aside0 (∀ z, Below w00.heap.size w00 z → (Kd.int .u8).C z A P.length P ∧ k30.C z A2 R.length R ∧ (Kd.int .u8).C z B P.length P ∧ k30.C z B2 R.length R) := ⟨fun z hb => ⟨Kd.C_below h4 hb, Kd.C_below h5 hb, Kd.C_below k4 hb, Kd.C_below k5 hb⟩⟩
  have H0 := Aside0.mk (((Hp.start w00).alloc (.cells #[.int .u32 tk, .int .u32 hs, .slice A P.length c, .slice A2 R.length c2] 41)).allocAt (.cells #[.int .u32 tk, .int .u32 hs, .slice B P.length d, .slice B2 R.length d2] 41) (w00.heap.size + 1) (by simp))
  clear h2 h3 h4 h5 k2 k3 k4 k5 hn
  generalize P.length = n at *
  generalize R.length = m at *
  go_enter Try.func32, Try.ntmps32
  go_upto_region 1 with fail
  generalize (w00.alloc (.cells #[.int .u32 tk, .int .u32 hs, .slice A n c, .slice A2 m c2] 41)).alloc (.cells #[.int .u32 tk, .int .u32 hs, .slice B n d, .slice B2 m d2] 41) = W at *
  obtain ⟨gd, hgd⟩ : ∃ gd, w00.heap.size = gd := ⟨_, rfl⟩
  rw [hgd] at H0 HF
  rw [hgd]
  have HGD := Aside0.mk hgd
  clear hgd
  have a0 := blk_cell (H0.out.get (i := 1) rfl) 0
  have a1 := blk_cell (H0.out.get (i := 1) rfl) 1
  have a2 := blk_cell (H0.out.get (i := 1) rfl) 2
  have b0 := blk_cell (H0.out.get (i := 0) rfl) 0
  have b1 := blk_cell (H0.out.get (i := 0) rfl) 1
  have b2 := blk_cell (H0.out.get (i := 0) rfl) 2
  go_wp2_with fail
  obtain ⟨f1, f2, f3, f4⟩ := HF.out W H0.out.bel
  have KS := Aside0.mk (bequal_any A B n c d P W f1 HC.out.1 f3 HC.out.2.2.1)
  refine KS.out.mono ?_
  rintro e w1 ⟨rfl, hb1⟩
  have H1 := Aside0.mk (H0.out.call hb1)
  clear a0 a1 a2 b0 b1 b2 f1 f2 f3 f4 KS hb1 H0
  have a3 := blk_cell (H1.out.get (i := 1) rfl) 3
  have b3 := blk_cell (H1.out.get (i := 0) rfl) 3
  go_wp2_with fail
  obtain ⟨f1, f2, f3, f4⟩ := HF.out w1 H1.out.bel
  have KC := Aside0.mk (cequal_any A2 B2 m c2 d2 R w1 f2 HC.out.2.1 f4 HC.out.2.2.2 HN.out)
  refine KC.out.mono ?_
  rintro e w2 ⟨rfl, hd⟩
  have H2 := Aside0.mk (H1.out.call hd)
  clear f1 f2 f3 f4 KC hd a3 b3 H1
  go_wp2_with fail
  go_ret
  rw [HGD.out]
  exact ⟨rfl, H2.out.bel⟩
end Go.Proofs.Ytkhlalpkkmjfnaa

namespace Go.Proofs.Ytkhlalpkkmjfnaa
open Go.RowKit Go.Proofs.YtkhlalpkkmjfnaaW.PrintWords Go.Proofs.YtkhlalpkkmjfnaaW.PrintLast Go.Proofs.YtkhlalpkkmjfnaaW.PrintMore
set_option linter.unusedVariables false
set_option linter.unusedSimpArgs false

/-! ### Cut -/
theorem cut_l0 (l : List Int) (m : Nat) (hl : min m l.length < 140737488355328) (hn : l.length ≤ 9223372036854775807) : ∀ (d k i : Nat), i + d = l.length → d < k →
    hoodwinkref01_Cut.l0 k (m : Int) (l.take (min i m)) l (l.length : Int) (i : Int) = some (l.take m)
  | 0, k, i, hi, hk => by
    obtain ⟨k, rfl⟩ : ∃ q, k = q + 1 := ⟨k - 1, by omega⟩
    simp only [hoodwinkref01_Cut.l0]
    rw [if_neg (by omega), takes (by omega : min (min i m) l.length = min m l.length)]
  | d + 1, k, i, hi, hk => by
    obtain ⟨k, rfl⟩ : ∃ q, k = q + 1 := ⟨k - 1, by omega⟩
    have hil : i < l.length := by omega
    have ih := cut_l0 l m hl hn d k (i + 1) (by omega) (by omega)
    simp only [hoodwinkref01_Cut.l0]
    rw [if_pos (by omega), if_pos (by omega), if_pos (by omega), next64 (by omega)]
    by_cases h : i < m
    · rw [if_pos (by omega), if_pos (by rw [List.length_take]; omega), rd_getElem hil, ← ih]
      rw [show min i m = i by omega, show min (i + 1) m = i + 1 by omega, take_snoc hil]
    · rw [if_neg (by omega), ← ih, show min (i + 1) m = min i m by omega]
theorem cut_f (l : List Int) (m : Int) (hm : 0 ≤ m) (hl : m ≤ 140737488351232) (hn : l.length ≤ 9223372036854775807) : hoodwinkref01_Cut.f (l.length + 1) l m = some (l.take m.toNat) := by
  have := cut_l0 l m.toNat (by omega) hn l.length (l.length + 1) 0 (by omega) (by omega)
  rw [Int.toNat_of_nonneg hm] at this
  simpa [hoodwinkref01_Cut.f] using this
theorem cut_any (A : Option Addr) (n c : Nat) (l : List Int) (m : Int) (w : World) (hr : (Kd.int .u8).C w A n l) (hc : n ≤ c) (hm : 0 ≤ m ∧ m ≤ 140737488351232) :
    Calls Try.prog 27 #[.slice A n c, .int .i64 m] w fun e w' => ∃ v, e = .returned v ∧ (Kd.int .u8).R 5 w' w.heap.size (fun _ => True) v (l.take m.toNat) ∧ Below w.heap.size w w' := by
  have hn := hr.2.1
  obtain rfl := hr.1
  exact hoodwinkref01_Cut.calls (l.length + 1) A c l m _ w hr hc (cut_f l m hm.1 hm.2 hn)
end Go.Proofs.Ytkhlalpkkmjfnaa

namespace Go.Proofs.Ytkhlalpkkmjfnaa
open Go.RowKit Go.Proofs.YtkhlalpkkmjfnaaW.PrintWords Go.Proofs.YtkhlalpkkmjfnaaW.PrintLast Go.Proofs.YtkhlalpkkmjfnaaW.PrintMore
set_option linter.unusedVariables false
set_option linter.unusedSimpArgs false

/-- 'xs[:j]' of any row. -/
theorem cut_hK {P : Program} {α : Type} (d : Kd α) (kh : IntKind) (t e bytes : Nat) (z : Value) (ht : P.underlying t = some (.slice e)) (hinfo : (P.info? e).map (fun i => (i.zero, i.size, i.bytes)) = some (some z, d.sz, bytes)) (A : Option Addr) (n c j : Nat) (hj : j ≤ n) (hc : n ≤ c) :
    (∀ W : World, (Instr.slice t (.slice A n c) none (some (.int kh (j : Int))) none).run P W = .ok (.slice A j c) W) ∧
      (∀ (w : World) (xs : List α), d.C w A n xs → d.C w A j (xs.take j)) := by
  obtain ⟨i0, hi, hzz⟩ := Option.map_eq_some_iff.1 hinfo
  simp only [Prod.mk.injEq] at hzz
  have hel : P.elem t = e := by simp [Program.elem, ht]
  have hu : P.underlying t = some (.slice (P.elem t)) := by rw [hel]; exact ht
  have ha : (A.map fun x => x.add 0) = A := by cases A <;> simp [Addr.add]
  refine ⟨fun W => ?_, fun w xs h => ?_⟩
  · rw [run_slice_h W t A n c hu kh (j : Int) (Int.natCast_nonneg _) (by omega), hel]
    simp [sizeOf, typeInfo, hi, hzz.2.1, sliced, Result.andThen, ha]
  · obtain rfl := h.1
    have := Kd.C_take h (m := j) hj
    have e1 : (xs.take j).length = j := by rw [List.length_take]; omega
    rwa [e1] at this
/-- A step that writes one row alone, or none. -/
theorem Hp.grow {B : Nat} {w0 W W1 : World} {L : List (Nat × Obj)} {r : Option Nat} (h : Hp B w0 W L []) (hg : W.grownBy W1 r) (hbase : ∀ k, r = some k → B ≤ k) (hr : ∀ p ∈ L, some p.1 ≠ r) : Hp B w0 W1 L [] := by
  have hb : Below B W W1 := (Below.refl B W).grown hg h.le hbase
  exact ⟨h.1.trans hb, fun p hp => ⟨(hg.block p.1 (blk_lt (h.2.1 p hp).1) (hr p hp)).trans (h.2.1 p hp).1, (h.2.1 p hp).2⟩, h.2.2.1, Nat.le_trans h.le hb.size, fun φ hφ => by cases hφ⟩
def TG (w w' : World) : Prop := ∃ x, w.grownBy w' x ∧ ∀ b, x = some b → ∃ cs T fr, w.heap[b]? = some (.cells cs T fr) ∧ 5 ≠ T ∧ fr = (0, 0)
theorem TG.row {w w' : World} {b : Nat} {v : Value} {P : List Int} (ht : TG w w') (h : (Kd.int .u8).R 5 w b (fun _ => True) v P) : (Kd.int .u8).R 5 w' b (fun _ => True) v P := by
  obtain ⟨x, hx, hn⟩ := ht
  refine Kd.R_grown2 h rfl hx fun k hk => ?_
  obtain ⟨cs, T, fr, h1, h2, rfl⟩ := hn k hk
  exact Kd.R_ne h h1 h2
/-- The struct's block, and the result's. -/
def SSt (B : Nat) (w0 w : World) (tk hs : Int) (vP vC : Value) : Prop :=
  Hp B w0 w [(B + 1, .cells #[.int .u32 0, .int .u32 0, .slice none 0 0, .slice none 0 0] 41 (0, 0)), (B, .cells #[.int .u32 tk, .int .u32 hs, vP, vC] 41 (0, 0))] []
theorem SSt.below {B : Nat} {w0 w w' : World} {tk hs : Int} {vP vC : Value} (h : SSt B w0 w tk hs vP vC) (hb : Below w.heap.size w w') : SSt B w0 w' tk hs vP vC := Hp.call h hb

set_option maxRecDepth 100000 in
set_option maxHeartbeats 16000000 in
theorem small_any (v : Value) (tk hs : Int) (P : List Int) (C : List S30) (w00 : World) (hv : DvC w00 tk hs P C v) :
    Calls Try.prog 26 #[v] w00 fun e w' => ∃ v1, e = .returned v1 ∧ OfR w00.heap.size w' tk hs (P.take 60) (C.take 60) v1 ∧ Below w00.heap.size w00 w' := by
  obtain ⟨A1, c1, A2, c2, rfl, hc1, hc2, hP, hC⟩ := hv
  obtain ⟨B, hB⟩ : ∃ B, w00.heap.size = B := ⟨_, rfl⟩
  have H0 := Aside0.mk (((Hp.start w00).alloc (.cells #[.int .u32 tk, .int .u32 hs, .slice A1 P.length c1, .slice A2 C.length c2] 41)).alloc (.cells #[.int .u32 0, .int .u32 0, .slice none 0 0, .slice none 0 0] 41))
  rw [show (w00.alloc (.cells #[.int .u32 tk, .int .u32 hs, .slice A1 P.length c1, .slice A2 C.length c2] 41)).heap.size = w00.heap.size + 1 by simp, hB] at H0
  rw [hB]
  have HFP : Aside0 (∀ z, Below B w00 z → (Kd.int .u8).C z A1 P.length P) := ⟨fun z hz => Kd.C_below hP (hB ▸ hz)⟩
  have HFC : Aside0 (∀ z, Below B w00 z → k30.C z A2 C.length C) := ⟨fun z hz => Kd.C_below hC (hB ▸ hz)⟩
  have HC1 := Aside0.mk hc1
  have HC2 := Aside0.mk hc2
  have HB := Aside0.mk hB
  obtain ⟨k, hk⟩ : ∃ k : Nat, min C.length 60 = k := ⟨_, rfl⟩
  obtain ⟨n, hn⟩ : ∃ n : Nat, C.length = n := ⟨_, rfl⟩
  obtain ⟨m, hm⟩ : ∃ m : Nat, P.length = m := ⟨_, rfl⟩
  rw [hn] at hk
  obtain ⟨x1, x2⟩ := cut_hK (P := Try.prog) k30 .i64 22 30 8 (.agg #[.int .i32 0, .int .u32 0]) Try.underlying22 cell_full A2 n c2 k (by omega) (by omega)
  have X1 : Aside0 (∀ W : World, (Instr.slice 22 (.slice A2 n c2) none (some (.int .i64 k)) none).run Try.prog W = .ok (.slice A2 k c2) W) := ⟨x1⟩
  have X2 : Aside0 (∀ z, Below B w00 z → k30.C z A2 k (C.take 60)) := ⟨fun z hz => by
    have := x2 z C (hn ▸ HFC.out z hz)
    have e : C.take k = C.take 60 := by
      rw [← hk, ← hn, Nat.min_comm, ← List.take_take, List.take_length]
    rwa [e] at this⟩
  have hn0 : (0 : Int) ≤ n := by omega
  have HK := Aside0.mk (And.intro hk (And.intro (show k ≤ 60 by omega) (hC.2.1)))
  rw [hn] at HC2 HFC
  rw [hm] at HC1 HFP
  rw [hn, hm] at H0
  rw [hn, hm]
  clear hP hC hc1 hc2 hB x1 x2
  go_enter Try.func26, Try.ntmps26
  go_wp2_with fail
  rw [HB.out]
  have HS0 : Aside0 (SSt B w00 ((w00.alloc (.cells #[.int .u32 tk, .int .u32 hs, .slice A1 m c1, .slice A2 n c2] 41)).alloc (.cells #[.int .u32 0, .int .u32 0, .slice none 0 0, .slice none 0 0] 41)) tk hs (.slice A1 m c1) (.slice A2 n c2)) := H0
  clear H0
  generalize ((w00.alloc (.cells #[.int .u32 tk, .int .u32 hs, .slice A1 m c1, .slice A2 n c2] 41)).alloc (.cells #[.int .u32 0, .int .u32 0, .slice none 0 0, .slice none 0 0] 41)) = W at *
  have HW : Aside0 (B ≤ W.heap.size) := ⟨HS0.out.le⟩
  refine regionS (W := W)
    [fun _ v => v = .pointer (some ⟨B, 2, none⟩),
     fun _ v => v = .slice A1 m c1,
     fun (w : World) (v : Value) => (Kd.int .u8).R 5 w B (fun _ => True) v (P.take 60),
     fun _ _ => True,
     fun _ v => v = .pointer (some ⟨B, 3, none⟩),
     fun _ v => v = .slice A2 n c2,
     fun _ v => v = .pointer (some ⟨B, 3, none⟩),
     fun _ v => v = .slice A2 n c2,
     fun _ v => v = .int .i64 n,
     fun _ v => v = .int .i64 k,
     fun _ v => v = .slice A2 k c2,
     fun _ _ => True,
     fun _ v => v = .pointer (some ⟨B, 2, none⟩),
     fun _ _ => True,
     fun _ v => v = .pointer (some ⟨B, 3, none⟩),
     fun _ _ => True]
    [3, 11, 13, 15]
    (fun t => match t with | 0 => fun (rs : List Value) (w : World) => SSt B w00 w tk hs (.slice A1 m c1) (.slice A2 n c2) | 1 => fun (rs : List Value) (w : World) => SSt B w00 w tk hs (.slice A1 m c1) (.slice A2 n c2) ∧ k30.R 30 w B (fun _ => True) (rs.getD 0 undef) [] ∧ ∃ bl cs, (rs.getD 0 undef) = .slice (some ⟨bl, 0, none⟩) 0 0 ∧ w.heap[bl]? = some (.cells cs 30 (0, 0)) | 2 => fun (rs : List Value) (w : World) => SSt B w00 w tk hs (.slice A1 m c1) (.slice A2 n c2) ∧ k30.R 30 w B (fun _ => True) (rs.getD 1 undef) (C.take 60) | 3 => fun (rs : List Value) (w : World) => ∃ u, SSt B w00 w tk hs u (.slice A2 n c2) ∧ (Kd.int .u8).R 5 w B (fun _ => True) u (P.take 60) ∧ k30.R 30 w B (fun _ => True) (rs.getD 1 undef) (C.take 60) | 4 => fun (rs : List Value) (w : World) => ∃ u y, SSt B w00 w tk hs u y ∧ (Kd.int .u8).R 5 w B (fun _ => True) u (P.take 60) ∧ k30.R 30 w B (fun _ => True) y (C.take 60) | _ => fun _ _ => False)
    (fun _ w w' => TG w w') (fun w => W.heap.size ≤ w.heap.size ∧ Below B w00 w)
    (fun j =>  none)
    [(0, some 3), (1, some 4), (2, some 5), (3, some 6), (4, some 7), (5, some 8), (6, some 9), (7, some 10), (8, some 11), (9, some 12), (10, some 13), (11, some 14), (12, some 15), (13, none), (14, some 16), (15, none)]
    []
    (by kernel_rfl) (by kernel_rfl) (by kernel_rfl) (by kernel_rfl) (by kernel_rfl) ?z1_1c ?z1_1i ?z1_1b ?z1_1d ?z1_1g ⟨?z1_1t0, ?z1_1t1, ?z1_1t2, ?z1_1t3, ?z1_1t4, ?z1_1t5, ?z1_1t6, ?z1_1t7, ?z1_1t8, ?z1_1t9, ?z1_1t10, ?z1_1t11, ?z1_1t12, ?z1_1t13, ?z1_1t14, ?z1_1t15, trivial⟩ ⟨?z1_1o0, ?z1_1o1, ?z1_1o2, ?z1_1o3, ?z1_1o4, ?z1_1o5, ?z1_1o6, ?z1_1o7, ?z1_1o8, ?z1_1o9, ?z1_1o10, ?z1_1o11, ?z1_1o12, ?z1_1o13, ?z1_1o14, ?z1_1o15, trivial⟩ ?z1_1e
  case z1_1c => exact ⟨Nat.le_refl _, (HS0.out.below (below_drew (Below.refl _ _))).bel⟩
  case z1_1i => exact (HS0.out.below (below_drew (Below.refl _ _)))
  case z1_1b => intro w w' hb h; exact ⟨Nat.le_trans h.1 hb.size, h.2.trans (hb.mono (Nat.le_trans HW.out h.1))⟩
  case z1_1d =>
    intro t rs w w' hb h
    match t, h with
    | 0, h => (replace h : SSt B w00 w tk hs (.slice A1 m c1) (.slice A2 n c2) := h); show SSt B w00 w' tk hs (.slice A1 m c1) (.slice A2 n c2); first | exact SSt.below h hb | (obtain ⟨h1, h2, bl, cs, h3, h4⟩ := h; exact ⟨SSt.below h1 hb, Kd.R_below h2 hb, bl, cs, h3, blk_below h4 hb⟩) | exact ⟨SSt.below h.1 hb, Kd.R_below h.2 hb⟩ | (obtain ⟨u, h1, h2, h3⟩ := h; exact ⟨u, SSt.below h1 hb, Kd.R_below h2 hb, Kd.R_below h3 hb⟩) | (obtain ⟨u, y, h1, h2, h3⟩ := h; exact ⟨u, y, SSt.below h1 hb, Kd.R_below h2 hb, Kd.R_below h3 hb⟩)
    | 1, h => (replace h : SSt B w00 w tk hs (.slice A1 m c1) (.slice A2 n c2) ∧ k30.R 30 w B (fun _ => True) (rs.getD 0 undef) [] ∧ ∃ bl cs, (rs.getD 0 undef) = .slice (some ⟨bl, 0, none⟩) 0 0 ∧ w.heap[bl]? = some (.cells cs 30 (0, 0)) := h); show SSt B w00 w' tk hs (.slice A1 m c1) (.slice A2 n c2) ∧ k30.R 30 w' B (fun _ => True) (rs.getD 0 undef) [] ∧ ∃ bl cs, (rs.getD 0 undef) = .slice (some ⟨bl, 0, none⟩) 0 0 ∧ w'.heap[bl]? = some (.cells cs 30 (0, 0)); first | exact SSt.below h hb | (obtain ⟨h1, h2, bl, cs, h3, h4⟩ := h; exact ⟨SSt.below h1 hb, Kd.R_below h2 hb, bl, cs, h3, blk_below h4 hb⟩) | exact ⟨SSt.below h.1 hb, Kd.R_below h.2 hb⟩ | (obtain ⟨u, h1, h2, h3⟩ := h; exact ⟨u, SSt.below h1 hb, Kd.R_below h2 hb, Kd.R_below h3 hb⟩) | (obtain ⟨u, y, h1, h2, h3⟩ := h; exact ⟨u, y, SSt.below h1 hb, Kd.R_below h2 hb, Kd.R_below h3 hb⟩)
    | 2, h => (replace h : SSt B w00 w tk hs (.slice A1 m c1) (.slice A2 n c2) ∧ k30.R 30 w B (fun _ => True) (rs.getD 1 undef) (C.take 60) := h); show SSt B w00 w' tk hs (.slice A1 m c1) (.slice A2 n c2) ∧ k30.R 30 w' B (fun _ => True) (rs.getD 1 undef) (C.take 60); first | exact SSt.below h hb | (obtain ⟨h1, h2, bl, cs, h3, h4⟩ := h; exact ⟨SSt.below h1 hb, Kd.R_below h2 hb, bl, cs, h3, blk_below h4 hb⟩) | exact ⟨SSt.below h.1 hb, Kd.R_below h.2 hb⟩ | (obtain ⟨u, h1, h2, h3⟩ := h; exact ⟨u, SSt.below h1 hb, Kd.R_below h2 hb, Kd.R_below h3 hb⟩) | (obtain ⟨u, y, h1, h2, h3⟩ := h; exact ⟨u, y, SSt.below h1 hb, Kd.R_below h2 hb, Kd.R_below h3 hb⟩)
    | 3, h => (replace h : ∃ u, SSt B w00 w tk hs u (.slice A2 n c2) ∧ (Kd.int .u8).R 5 w B (fun _ => True) u (P.take 60) ∧ k30.R 30 w B (fun _ => True) (rs.getD 1 undef) (C.take 60) := h); show ∃ u, SSt B w00 w' tk hs u (.slice A2 n c2) ∧ (Kd.int .u8).R 5 w' B (fun _ => True) u (P.take 60) ∧ k30.R 30 w' B (fun _ => True) (rs.getD 1 undef) (C.take 60); first | exact SSt.below h hb | (obtain ⟨h1, h2, bl, cs, h3, h4⟩ := h; exact ⟨SSt.below h1 hb, Kd.R_below h2 hb, bl, cs, h3, blk_below h4 hb⟩) | exact ⟨SSt.below h.1 hb, Kd.R_below h.2 hb⟩ | (obtain ⟨u, h1, h2, h3⟩ := h; exact ⟨u, SSt.below h1 hb, Kd.R_below h2 hb, Kd.R_below h3 hb⟩) | (obtain ⟨u, y, h1, h2, h3⟩ := h; exact ⟨u, y, SSt.below h1 hb, Kd.R_below h2 hb, Kd.R_below h3 hb⟩)
    | 4, h => (replace h : ∃ u y, SSt B w00 w tk hs u y ∧ (Kd.int .u8).R 5 w B (fun _ => True) u (P.take 60) ∧ k30.R 30 w B (fun _ => True) y (C.take 60) := h); show ∃ u y, SSt B w00 w' tk hs u y ∧ (Kd.int .u8).R 5 w' B (fun _ => True) u (P.take 60) ∧ k30.R 30 w' B (fun _ => True) y (C.take 60); first | exact SSt.below h hb | (obtain ⟨h1, h2, bl, cs, h3, h4⟩ := h; exact ⟨SSt.below h1 hb, Kd.R_below h2 hb, bl, cs, h3, blk_below h4 hb⟩) | exact ⟨SSt.below h.1 hb, Kd.R_below h.2 hb⟩ | (obtain ⟨u, h1, h2, h3⟩ := h; exact ⟨u, SSt.below h1 hb, Kd.R_below h2 hb, Kd.R_below h3 hb⟩) | (obtain ⟨u, y, h1, h2, h3⟩ := h; exact ⟨u, y, SSt.below h1 hb, Kd.R_below h2 hb, Kd.R_below h3 hb⟩)
    | _ + 5, h => exact h.elim
  case z1_1g =>
    intro j hj; cases hj
  case z1_1t0 => exact StabS.const _ _ _ _
  case z1_1t1 => exact StabS.const _ _ _ _
  case z1_1t2 => exact ⟨(by intro w w' v hb h; exact Kd.R_below h hb), (by intro k hk hne w w' v ht h; exact ht.row h)⟩
  case z1_1t3 => exact StabS.const _ _ _ _
  case z1_1t4 => exact StabS.const _ _ _ _
  case z1_1t5 => exact StabS.const _ _ _ _
  case z1_1t6 => exact StabS.const _ _ _ _
  case z1_1t7 => exact StabS.const _ _ _ _
  case z1_1t8 => exact StabS.const _ _ _ _
  case z1_1t9 => exact StabS.const _ _ _ _
  case z1_1t10 => exact StabS.const _ _ _ _
  case z1_1t11 => exact StabS.const _ _ _ _
  case z1_1t12 => exact StabS.const _ _ _ _
  case z1_1t13 => exact StabS.const _ _ _ _
  case z1_1t14 => exact StabS.const _ _ _ _
  case z1_1t15 => exact StabS.const _ _ _ _
  case z1_1o0 =>
    intro vs w t hC ht1 ht2 hS hV
    rw [if_pos (by kernel_rfl)]
    generalize hρ : rho _ _ _ vs = ρ
    have e1 : ρ (.tmp 1) = .pointer (some ⟨B, 0, none⟩) := by rw [← hρ]; kernel_rfl
    clear hρ hV
    refine runs_val (v := .pointer (some ⟨B, 2, none⟩)) (w' := w) ?_ ⟨Below.refl _ _, rfl⟩
    clear ht1 ht2 hS hC
    go_simp <;> (first | exact IntWalk.u64_in _ (by omega) | exact IntWalk.u32_in _ (by omega) | exact IntWalk.u16_in _ (by omega) | exact IntWalk.u8_in _ (by omega) | exact IntWalk.i64_in _ (by omega) | skip)
  case z1_1o1 =>
    intro vs w t hC ht1 ht2 hS hV
    rw [if_pos (by kernel_rfl)]
    generalize hρ : rho _ _ _ vs = ρ
    have d3 : (vs 0) = .pointer (some ⟨B, 2, none⟩) := hV 0 (by kernel_rfl)
    have e3 : ρ (.tmp 3) = vs 0 := by rw [← hρ]; kernel_rfl
    rw [d3] at e3; clear d3
    clear hρ hV
    have ht0 : t ≤ 2 := by
      rcases Nat.lt_or_ge 2 t with hq | hq
      · exact absurd (ht1 2 13 _ hq rfl rfl) (by decide +kernel)
      · exact hq
    rcases (show t = 0 ∨ t = 1 ∨ t = 2 by omega) with rfl | rfl | rfl
    · replace hS : SSt B w00 w tk hs (.slice A1 m c1) (.slice A2 n c2) := hS
      have hS1 : SSt B w00 w tk hs (.slice A1 m c1) (.slice A2 n c2) := by first | exact hS | exact hS.1
      have c0 := blk_cell (hS1.get (i := 1) rfl) 2
      refine runs_val (v := .slice A1 m c1) (w' := w) ?_ ⟨Below.refl _ _, rfl⟩
      clear ht1 ht2 hS hC
      go_simp
    · replace hS : SSt B w00 w tk hs (.slice A1 m c1) (.slice A2 n c2) ∧ k30.R 30 w B (fun _ => True) (vs 3) [] ∧ ∃ bl cs, (vs 3) = .slice (some ⟨bl, 0, none⟩) 0 0 ∧ w.heap[bl]? = some (.cells cs 30 (0, 0)) := hS
      have hS1 : SSt B w00 w tk hs (.slice A1 m c1) (.slice A2 n c2) := by first | exact hS | exact hS.1
      have c0 := blk_cell (hS1.get (i := 1) rfl) 2
      refine runs_val (v := .slice A1 m c1) (w' := w) ?_ ⟨Below.refl _ _, rfl⟩
      clear ht1 ht2 hS hC
      go_simp
    · replace hS : SSt B w00 w tk hs (.slice A1 m c1) (.slice A2 n c2) ∧ k30.R 30 w B (fun _ => True) (vs 11) (C.take 60) := hS
      have hS1 : SSt B w00 w tk hs (.slice A1 m c1) (.slice A2 n c2) := by first | exact hS | exact hS.1
      have c0 := blk_cell (hS1.get (i := 1) rfl) 2
      refine runs_val (v := .slice A1 m c1) (w' := w) ?_ ⟨Below.refl _ _, rfl⟩
      clear ht1 ht2 hS hC
      go_simp
  case z1_1o2 =>
    intro vs w t hC ht1 ht2 hS hV
    rw [if_pos (by kernel_rfl)]
    generalize hρ : rho _ _ _ vs = ρ
    have d4 : (vs 1) = .slice A1 m c1 := hV 1 (by kernel_rfl)
    have e4 : ρ (.tmp 4) = vs 1 := by rw [← hρ]; kernel_rfl
    rw [d4] at e4; clear d4
    have ef27 : ρ (.func 27) = .func (.func 27) #[] #[] := by rw [← hρ]; rfl
    have econ : ∀ v : Value, ρ (.const v) = v := fun v => by rw [← hρ]; rfl
    clear hρ hV
    refine runs_call (f := 27) (args := #[.slice A1 m c1, .int .i64 60]) (w' := w) ?_ ?_
    · clear ht1 ht2 hS hC; go_simp
    · refine (cut_any A1 m c1 P 60 w (HFP.out w hC.2) HC1.out (by omega)).mono ?_
      rintro e w5 ⟨v5, rfl, hr5, hb5⟩
      exact ⟨_, rfl, hb5, Kd.R_lower hr5 (Nat.le_trans HW.out hC.1)⟩
  case z1_1o3 =>
    intro vs w hC hS hV
    replace hS : SSt B w00 w tk hs (.slice A1 m c1) (.slice A2 n c2) := hS
    rw [if_pos (by kernel_rfl)]
    generalize hρ : rho _ _ _ vs = ρ
    clear hρ hV
    refine runs_val (v := .slice (some ⟨w.heap.size, 0, none⟩) 0 0) (w' := w.alloc (.cells #[] 30)) ?_ ?_
    · clear hS hC
      go_simp
    · exact ⟨⟨by have := hC.1; simp; omega, hC.2.trans ((below_alloc (Below.refl w.heap.size w) _).mono (Nat.le_trans HW.out hC.1))⟩, ⟨none, World.grownBy_alloc _ _ _, fun b hb => by cases hb⟩, trivial, SSt.below hS (below_alloc (Below.refl _ _) _), R_made0 k30 30 w B (Nat.le_trans HW.out hC.1), _, _, rfl, blk_new _ _⟩
  case z1_1o4 =>
    intro vs w t hC ht1 ht2 hS hV
    rw [if_pos (by kernel_rfl)]
    generalize hρ : rho _ _ _ vs = ρ
    have e1 : ρ (.tmp 1) = .pointer (some ⟨B, 0, none⟩) := by rw [← hρ]; kernel_rfl
    clear hρ hV
    refine runs_val (v := .pointer (some ⟨B, 3, none⟩)) (w' := w) ?_ ⟨Below.refl _ _, rfl⟩
    clear ht1 ht2 hS hC
    go_simp <;> (first | exact IntWalk.u64_in _ (by omega) | exact IntWalk.u32_in _ (by omega) | exact IntWalk.u16_in _ (by omega) | exact IntWalk.u8_in _ (by omega) | exact IntWalk.i64_in _ (by omega) | skip)
  case z1_1o5 =>
    intro vs w t hC ht1 ht2 hS hV
    rw [if_pos (by kernel_rfl)]
    generalize hρ : rho _ _ _ vs = ρ
    have d7 : (vs 4) = .pointer (some ⟨B, 3, none⟩) := hV 4 (by kernel_rfl)
    have e7 : ρ (.tmp 7) = vs 4 := by rw [← hρ]; kernel_rfl
    rw [d7] at e7; clear d7
    clear hρ hV
    have ht0 : t ≤ 2 := by
      rcases Nat.lt_or_ge 2 t with hq | hq
      · exact absurd (ht1 2 13 _ hq rfl rfl) (by decide +kernel)
      · exact hq
    rcases (show t = 0 ∨ t = 1 ∨ t = 2 by omega) with rfl | rfl | rfl
    · replace hS : SSt B w00 w tk hs (.slice A1 m c1) (.slice A2 n c2) := hS
      have hS1 : SSt B w00 w tk hs (.slice A1 m c1) (.slice A2 n c2) := by first | exact hS | exact hS.1
      have c0 := blk_cell (hS1.get (i := 1) rfl) 3
      refine runs_val (v := .slice A2 n c2) (w' := w) ?_ ⟨Below.refl _ _, rfl⟩
      clear ht1 ht2 hS hC
      go_simp
    · replace hS : SSt B w00 w tk hs (.slice A1 m c1) (.slice A2 n c2) ∧ k30.R 30 w B (fun _ => True) (vs 3) [] ∧ ∃ bl cs, (vs 3) = .slice (some ⟨bl, 0, none⟩) 0 0 ∧ w.heap[bl]? = some (.cells cs 30 (0, 0)) := hS
      have hS1 : SSt B w00 w tk hs (.slice A1 m c1) (.slice A2 n c2) := by first | exact hS | exact hS.1
      have c0 := blk_cell (hS1.get (i := 1) rfl) 3
      refine runs_val (v := .slice A2 n c2) (w' := w) ?_ ⟨Below.refl _ _, rfl⟩
      clear ht1 ht2 hS hC
      go_simp
    · replace hS : SSt B w00 w tk hs (.slice A1 m c1) (.slice A2 n c2) ∧ k30.R 30 w B (fun _ => True) (vs 11) (C.take 60) := hS
      have hS1 : SSt B w00 w tk hs (.slice A1 m c1) (.slice A2 n c2) := by first | exact hS | exact hS.1
      have c0 := blk_cell (hS1.get (i := 1) rfl) 3
      refine runs_val (v := .slice A2 n c2) (w' := w) ?_ ⟨Below.refl _ _, rfl⟩
      clear ht1 ht2 hS hC
      go_simp
  case z1_1o6 =>
    intro vs w t hC ht1 ht2 hS hV
    rw [if_pos (by kernel_rfl)]
    generalize hρ : rho _ _ _ vs = ρ
    have e1 : ρ (.tmp 1) = .pointer (some ⟨B, 0, none⟩) := by rw [← hρ]; kernel_rfl
    clear hρ hV
    refine runs_val (v := .pointer (some ⟨B, 3, none⟩)) (w' := w) ?_ ⟨Below.refl _ _, rfl⟩
    clear ht1 ht2 hS hC
    go_simp <;> (first | exact IntWalk.u64_in _ (by omega) | exact IntWalk.u32_in _ (by omega) | exact IntWalk.u16_in _ (by omega) | exact IntWalk.u8_in _ (by omega) | exact IntWalk.i64_in _ (by omega) | skip)
  case z1_1o7 =>
    intro vs w t hC ht1 ht2 hS hV
    rw [if_pos (by kernel_rfl)]
    generalize hρ : rho _ _ _ vs = ρ
    have d9 : (vs 6) = .pointer (some ⟨B, 3, none⟩) := hV 6 (by kernel_rfl)
    have e9 : ρ (.tmp 9) = vs 6 := by rw [← hρ]; kernel_rfl
    rw [d9] at e9; clear d9
    clear hρ hV
    have ht0 : t ≤ 2 := by
      rcases Nat.lt_or_ge 2 t with hq | hq
      · exact absurd (ht1 2 13 _ hq rfl rfl) (by decide +kernel)
      · exact hq
    rcases (show t = 0 ∨ t = 1 ∨ t = 2 by omega) with rfl | rfl | rfl
    · replace hS : SSt B w00 w tk hs (.slice A1 m c1) (.slice A2 n c2) := hS
      have hS1 : SSt B w00 w tk hs (.slice A1 m c1) (.slice A2 n c2) := by first | exact hS | exact hS.1
      have c0 := blk_cell (hS1.get (i := 1) rfl) 3
      refine runs_val (v := .slice A2 n c2) (w' := w) ?_ ⟨Below.refl _ _, rfl⟩
      clear ht1 ht2 hS hC
      go_simp
    · replace hS : SSt B w00 w tk hs (.slice A1 m c1) (.slice A2 n c2) ∧ k30.R 30 w B (fun _ => True) (vs 3) [] ∧ ∃ bl cs, (vs 3) = .slice (some ⟨bl, 0, none⟩) 0 0 ∧ w.heap[bl]? = some (.cells cs 30 (0, 0)) := hS
      have hS1 : SSt B w00 w tk hs (.slice A1 m c1) (.slice A2 n c2) := by first | exact hS | exact hS.1
      have c0 := blk_cell (hS1.get (i := 1) rfl) 3
      refine runs_val (v := .slice A2 n c2) (w' := w) ?_ ⟨Below.refl _ _, rfl⟩
      clear ht1 ht2 hS hC
      go_simp
    · replace hS : SSt B w00 w tk hs (.slice A1 m c1) (.slice A2 n c2) ∧ k30.R 30 w B (fun _ => True) (vs 11) (C.take 60) := hS
      have hS1 : SSt B w00 w tk hs (.slice A1 m c1) (.slice A2 n c2) := by first | exact hS | exact hS.1
      have c0 := blk_cell (hS1.get (i := 1) rfl) 3
      refine runs_val (v := .slice A2 n c2) (w' := w) ?_ ⟨Below.refl _ _, rfl⟩
      clear ht1 ht2 hS hC
      go_simp
  case z1_1o8 =>
    intro vs w t hC ht1 ht2 hS hV
    rw [if_pos (by kernel_rfl)]
    generalize hρ : rho _ _ _ vs = ρ
    have d10 : (vs 7) = .slice A2 n c2 := hV 7 (by kernel_rfl)
    have e10 : ρ (.tmp 10) = vs 7 := by rw [← hρ]; kernel_rfl
    rw [d10] at e10; clear d10
    clear hρ hV
    refine runs_val (v := .int .i64 n) (w' := w) ?_ ⟨Below.refl _ _, rfl⟩
    clear ht1 ht2 hS hC
    go_simp <;> (first | exact IntWalk.u64_in _ (by omega) | exact IntWalk.u32_in _ (by omega) | exact IntWalk.u16_in _ (by omega) | exact IntWalk.u8_in _ (by omega) | exact IntWalk.i64_in _ (by omega) | skip)
  case z1_1o9 =>
    intro vs w t hC ht1 ht2 hS hV
    rw [if_pos (by kernel_rfl)]
    generalize hρ : rho _ _ _ vs = ρ
    have d11 : (vs 8) = .int .i64 n := hV 8 (by kernel_rfl)
    have e11 : ρ (.tmp 11) = vs 8 := by rw [← hρ]; kernel_rfl
    rw [d11] at e11; clear d11
    have econ : ∀ v : Value, ρ (.const v) = v := fun v => by rw [← hρ]; rfl
    clear hρ hV
    refine runs_val (v := .int .i64 k) (w' := w) ?_ ⟨Below.refl _ _, rfl⟩
    clear ht1 ht2 hS hC
    have hk : min n 60 = k := HK.out.1
    have hk2 : (k : Int) = min (n : Int) 60 := by omega
    go_simp
    split <;> omega
  case z1_1o10 =>
    intro vs w t hC ht1 ht2 hS hV
    rw [if_pos (by kernel_rfl)]
    generalize hρ : rho _ _ _ vs = ρ
    have d8 : (vs 5) = .slice A2 n c2 := hV 5 (by kernel_rfl)
    have e8 : ρ (.tmp 8) = vs 5 := by rw [← hρ]; kernel_rfl
    rw [d8] at e8; clear d8
    have d12 : (vs 9) = .int .i64 k := hV 9 (by kernel_rfl)
    have e12 : ρ (.tmp 12) = vs 9 := by rw [← hρ]; kernel_rfl
    rw [d12] at e12; clear d12
    clear hρ hV
    have r1 := X1.out w
    exact runs_slice 22 (.tmp 8) none (some (.tmp 12)) none rfl Try.underlying22 (by simp only [Option.map_some, Option.map_none, e8, e12]; exact r1) ⟨Below.refl _ _, rfl⟩
  case z1_1o11 =>
    intro vs w hC hS hV
    replace hS : SSt B w00 w tk hs (.slice A1 m c1) (.slice A2 n c2) ∧ k30.R 30 w B (fun _ => True) (vs 3) [] ∧ ∃ bl cs, (vs 3) = .slice (some ⟨bl, 0, none⟩) 0 0 ∧ w.heap[bl]? = some (.cells cs 30 (0, 0)) := hS
    rw [if_pos (by kernel_rfl)]
    generalize hρ : rho _ _ _ vs = ρ
    have d6 : (fun (w : World) (v : Value) => True) w (vs 3) := hV 3 (by kernel_rfl)
    have e6 : ρ (.tmp 6) = vs 3 := by rw [← hρ]; kernel_rfl
    have d13 : (vs 10) = .slice A2 k c2 := hV 10 (by kernel_rfl)
    have e13 : ρ (.tmp 13) = vs 10 := by rw [← hρ]; kernel_rfl
    rw [d13] at e13; clear d13
    clear hρ hV
    obtain ⟨hS1, hS2, bl, cs, hS3, hS4⟩ := hS
    rw [hS3] at e6 hS2
    refine runs_append k30 (Rr := fun x cs => cs = [.int .i32 x.f0, .int .u32 x.f1]) B 6 13 22 30 (.agg #[.int .i32 0, .int .u32 0]) 8 rfl Try.underlying22 cell_full rfl (by decide) (by decide) _ [] (C.take 60) A2 k c2 (fun _ => True) (fun _ => False) e6 e13 hS2 (ReadsRow.imp_ (X2.out w hC.2) (Below.refl _ _) (fun x cs hp => k30_open hp)) (fun y cs h => by rw [h]; exact k30_mkM _ _ _ y) (fun _ h => h.elim) (fun _ _ => trivial) (Nat.le_trans HW.out hC.1) (by have := HK.out.2.1; simp; omega) ?_
    intro v1 w1 h1 hg1 hat
    have hbase : ∀ j, (Value.slice (some ⟨bl, 0, none⟩) 0 0).ownBlock = some j → B ≤ j := fun j hj => Kd.R_base hS2 j hj
    have hT : TG w w1 := ⟨_, hg1, fun b hb => by
      have e : b = bl := by simpa [Value.ownBlock, eq_comm] using hb
      subst e
      exact ⟨_, _, _, hS4, by decide, rfl⟩⟩
    have hS5 : SSt B w00 w1 tk hs (.slice A1 m c1) (.slice A2 n c2) := Hp.grow hS1 hg1 hbase (fun p hp => by
      simp only [List.mem_cons, List.not_mem_nil, or_false] at hp
      rcases hp with rfl | rfl
      · exact Kd.R_ne hS2 (hS1.get (i := 0) rfl) (by decide)
      · exact Kd.R_ne hS2 (hS1.get (i := 1) rfl) (by decide))
    exact ⟨⟨Nat.le_trans hC.1 hg1.size, hS5.bel⟩, hT, trivial, hS5, by simpa using h1⟩
  case z1_1o12 =>
    intro vs w t hC ht1 ht2 hS hV
    rw [if_pos (by kernel_rfl)]
    generalize hρ : rho _ _ _ vs = ρ
    have e1 : ρ (.tmp 1) = .pointer (some ⟨B, 0, none⟩) := by rw [← hρ]; kernel_rfl
    clear hρ hV
    refine runs_val (v := .pointer (some ⟨B, 2, none⟩)) (w' := w) ?_ ⟨Below.refl _ _, rfl⟩
    clear ht1 ht2 hS hC
    go_simp <;> (first | exact IntWalk.u64_in _ (by omega) | exact IntWalk.u32_in _ (by omega) | exact IntWalk.u16_in _ (by omega) | exact IntWalk.u8_in _ (by omega) | exact IntWalk.i64_in _ (by omega) | skip)
  case z1_1o13 =>
    intro vs w hC hS hV
    replace hS : SSt B w00 w tk hs (.slice A1 m c1) (.slice A2 n c2) ∧ k30.R 30 w B (fun _ => True) (vs 11) (C.take 60) := hS
    rw [if_pos (by kernel_rfl)]
    generalize hρ : rho _ _ _ vs = ρ
    have d15 : (vs 12) = .pointer (some ⟨B, 2, none⟩) := hV 12 (by kernel_rfl)
    have e15 : ρ (.tmp 15) = vs 12 := by rw [← hρ]; kernel_rfl
    rw [d15] at e15; clear d15
    have d5 : (fun (w : World) (v : Value) => (Kd.int .u8).R 5 w B (fun _ => True) v (P.take 60)) w (vs 2) := hV 2 (by kernel_rfl)
    have e5 : ρ (.tmp 5) = vs 2 := by rw [← hρ]; kernel_rfl
    clear hρ hV
    have hS0 := hS.1
    have f0 := blk_frozen (hS0.get (i := 1) rfl) 2
    have c0 := blk_cell (hS0.get (i := 1) rfl) 2
    have hS2 : SSt B w00 (w.setCell ⟨B, 2, none⟩ (vs 2)) tk hs (vs 2) (.slice A2 n c2) := hS0.setCell (i := 1) rfl 2 (vs 2)
    have n1 := Kd.R_ne d5 (hS0.get (i := 1) rfl) (by decide)
    have n2 := Kd.R_ne hS.2 (hS0.get (i := 1) rfl) (by decide)
    have k1 : (Kd.int .u8).R 5 (w.setCell ⟨B, 2, none⟩ (vs 2)) B (fun _ => True) (vs 2) (P.take 60) := Kd.R_grown2 d5 rfl (grown_setCell _ _ _ _) (fun j hj => by cases hj; exact n1)
    have k2 : k30.R 30 (w.setCell ⟨B, 2, none⟩ (vs 2)) B (fun _ => True) (vs 11) (C.take 60) := Kd.R_grown2 hS.2 rfl (grown_setCell _ _ _ _) (fun j hj => by cases hj; exact n2)
    refine runs_skip (w' := w.setCell ⟨B, 2, none⟩ (vs 2)) ?_ ⟨⟨Nat.le_trans hC.1 (by simp [World.setCell]), hS2.bel⟩, ⟨_, grown_setCell _ _ _ _, fun b hb => by cases hb; exact ⟨_, _, _, hS0.get (i := 1) rfl, by decide, rfl⟩⟩, trivial, ⟨_, hS2, k1, k2⟩⟩
    obtain ⟨A5, c5, hs5⟩ := Kd.R_slice d5
    rw [hs5] at e5
    rw [hs5]
    clear hS hS2 hC d5 hs5 k1 k2 n1 n2 hS0
    go_simp
  case z1_1o14 =>
    intro vs w t hC ht1 ht2 hS hV
    rw [if_pos (by kernel_rfl)]
    generalize hρ : rho _ _ _ vs = ρ
    have e1 : ρ (.tmp 1) = .pointer (some ⟨B, 0, none⟩) := by rw [← hρ]; kernel_rfl
    clear hρ hV
    refine runs_val (v := .pointer (some ⟨B, 3, none⟩)) (w' := w) ?_ ⟨Below.refl _ _, rfl⟩
    clear ht1 ht2 hS hC
    go_simp <;> (first | exact IntWalk.u64_in _ (by omega) | exact IntWalk.u32_in _ (by omega) | exact IntWalk.u16_in _ (by omega) | exact IntWalk.u8_in _ (by omega) | exact IntWalk.i64_in _ (by omega) | skip)
  case z1_1o15 =>
    intro vs w hC hS hV
    replace hS : ∃ u, SSt B w00 w tk hs u (.slice A2 n c2) ∧ (Kd.int .u8).R 5 w B (fun _ => True) u (P.take 60) ∧ k30.R 30 w B (fun _ => True) (vs 11) (C.take 60) := hS
    rw [if_pos (by kernel_rfl)]
    generalize hρ : rho _ _ _ vs = ρ
    have d16 : (vs 14) = .pointer (some ⟨B, 3, none⟩) := hV 14 (by kernel_rfl)
    have e16 : ρ (.tmp 16) = vs 14 := by rw [← hρ]; kernel_rfl
    rw [d16] at e16; clear d16
    have d14 : (fun (w : World) (v : Value) => True) w (vs 11) := hV 11 (by kernel_rfl)
    have e14 : ρ (.tmp 14) = vs 11 := by rw [← hρ]; kernel_rfl
    clear hρ hV
    obtain ⟨u, hS0, r1, r2⟩ := hS
    have f0 := blk_frozen (hS0.get (i := 1) rfl) 3
    have c0 := blk_cell (hS0.get (i := 1) rfl) 3
    have hS2 : SSt B w00 (w.setCell ⟨B, 3, none⟩ (vs 11)) tk hs u (vs 11) := hS0.setCell (i := 1) rfl 3 (vs 11)
    have n1 := Kd.R_ne r1 (hS0.get (i := 1) rfl) (by decide)
    have n2 := Kd.R_ne r2 (hS0.get (i := 1) rfl) (by decide)
    have k1 : (Kd.int .u8).R 5 (w.setCell ⟨B, 3, none⟩ (vs 11)) B (fun _ => True) u (P.take 60) := Kd.R_grown2 r1 rfl (grown_setCell _ _ _ _) (fun j hj => by cases hj; exact n1)
    have k2 : k30.R 30 (w.setCell ⟨B, 3, none⟩ (vs 11)) B (fun _ => True) (vs 11) (C.take 60) := Kd.R_grown2 r2 rfl (grown_setCell _ _ _ _) (fun j hj => by cases hj; exact n2)
    refine runs_skip (w' := w.setCell ⟨B, 3, none⟩ (vs 11)) ?_ ⟨⟨Nat.le_trans hC.1 (by simp [World.setCell]), hS2.bel⟩, ⟨_, grown_setCell _ _ _ _, fun b hb => by cases hb; exact ⟨_, _, _, hS0.get (i := 1) rfl, by decide, rfl⟩⟩, trivial, ⟨_, _, hS2, k1, k2⟩⟩
    obtain ⟨A5, c5, hs5⟩ := Kd.R_slice r2
    rw [hs5] at e14
    rw [hs5]
    clear hS2 hC hs5 k1 k2 n1 n2 hS0 r1 r2
    go_simp
  case z1_1e =>
    intro vs W2 hC hS hV
    replace hS : (fun (w : World) => ∃ u y, SSt B w00 w tk hs u y ∧ (Kd.int .u8).R 5 w B (fun _ => True) u (P.take 60) ∧ k30.R 30 w B (fun _ => True) y (C.take 60)) W2 := hS
    have d3 : (vs 0) = .pointer (some ⟨B, 2, none⟩) := hV 0 (Nat.le_of_ble_eq_true rfl)
    have d4 : (vs 1) = .slice A1 m c1 := hV 1 (Nat.le_of_ble_eq_true rfl)
    have d5 : (fun (w : World) (v : Value) => (Kd.int .u8).R 5 w B (fun _ => True) v (P.take 60)) W2 (vs 2) := hV 2 (Nat.le_of_ble_eq_true rfl)
    have d6 : (fun (w : World) (v : Value) => True) W2 (vs 3) := hV 3 (Nat.le_of_ble_eq_true rfl)
    have d7 : (vs 4) = .pointer (some ⟨B, 3, none⟩) := hV 4 (Nat.le_of_ble_eq_true rfl)
    have d8 : (vs 5) = .slice A2 n c2 := hV 5 (Nat.le_of_ble_eq_true rfl)
    have d9 : (vs 6) = .pointer (some ⟨B, 3, none⟩) := hV 6 (Nat.le_of_ble_eq_true rfl)
    have d10 : (vs 7) = .slice A2 n c2 := hV 7 (Nat.le_of_ble_eq_true rfl)
    have d11 : (vs 8) = .int .i64 n := hV 8 (Nat.le_of_ble_eq_true rfl)
    have d12 : (vs 9) = .int .i64 k := hV 9 (Nat.le_of_ble_eq_true rfl)
    have d13 : (vs 10) = .slice A2 k c2 := hV 10 (Nat.le_of_ble_eq_true rfl)
    have d14 : (fun (w : World) (v : Value) => True) W2 (vs 11) := hV 11 (Nat.le_of_ble_eq_true rfl)
    have d15 : (vs 12) = .pointer (some ⟨B, 2, none⟩) := hV 12 (Nat.le_of_ble_eq_true rfl)
    have d16 : (vs 14) = .pointer (some ⟨B, 3, none⟩) := hV 14 (Nat.le_of_ble_eq_true rfl)
    clear hV
    simp only [putAll]
    rw [d3, d4, d7, d8, d9, d10, d11, d12, d13, d15, d16]
    clear d3 d4 d7 d8 d9 d10 d11 d12 d13 d15 d16
    generalize vs 2 = v5 at *
    generalize vs 3 = v6 at *
    generalize vs 11 = v14 at *
    generalize vs 13 = vN13
    generalize vs 15 = vN15
    clear vs
    simp only [Act.put, List.setIfInBounds_toArray, List.set_cons_zero, List.set_cons_succ]
    obtain ⟨u, y, hS1, r1, r2⟩ := hS
    obtain ⟨A5, c5, rfl, l5, _⟩ := Kd.R_reads r1
    obtain ⟨A6, c6, rfl, l6, _⟩ := Kd.R_reads r2
    have HSS := Aside0.mk hS1
    have HO : Aside0 (OfR B W2 tk hs (P.take 60) (C.take 60) (.agg #[.int .u32 tk, .int .u32 hs, .slice A5 (P.take 60).length c5, .slice A6 (C.take 60).length c6])) := ⟨A5, c5, A6, c6, rfl, l5, l6, r1, r2⟩
    clear hS1 r1 r2 hC d5 d14 l5 l6
    obtain ⟨pn, hpn⟩ : ∃ pn, (P.take 60).length = pn := ⟨_, rfl⟩
    obtain ⟨cn, hcn⟩ : ∃ cn, (C.take 60).length = cn := ⟨_, rfl⟩
    rw [hpn, hcn] at HSS HO
    clear hpn hcn
    go_wp2_with (first | (refine wpList_load_row_g 41 (.tmp 1) rfl B rfl rfl 41 _ (0, 0) _ (HSS.out.get (i := 1) rfl) Try.underlying41 rfl (delta_info _ _ _ _) ?_) | (refine wpList_store_row rfl 41 (.tmp 2) (.tmp 17) rfl (B + 1) #[.int .u32 tk, .int .u32 hs, .slice A5 pn c5, .slice A6 cn c6] rfl rfl 41 _ (HSS.out.get (i := 0) rfl) (delta_info _ _ _ _) rfl (by simp [Value.oneCell']) ?_))
    have H9 := Aside0.mk (Hp.setRow HSS.out (i := 0) rfl #[.int .u32 tk, .int .u32 hs, .slice A5 pn c5, .slice A6 cn c6])
    have HO9 := Aside0.mk (HO.out.setRow9 (h1 := by decide) (h2 := by decide) (hg := HSS.out.get (i := 0) rfl) (cs := #[.int .u32 tk, .int .u32 hs, .slice A5 pn c5, .slice A6 cn c6]))
    refine bodyPost_ret (results_cell_row rfl _ _ (B + 1) _ #[.int .u32 tk, .int .u32 hs, .slice A5 pn c5, .slice A6 cn c6] (0, 0) _ rfl (H9.out.get (i := 0) rfl) Try.underlying41 rfl (delta_info _ _ _ _)) rfl ?_
    exact ⟨_, rfl, HO9.out, H9.out.bel⟩
end Go.Proofs.Ytkhlalpkkmjfnaa

namespace Go.Proofs.Ytkhlalpkkmjfnaa
open Go.RowKit Go.Proofs.YtkhlalpkkmjfnaaW.PrintWords Go.Proofs.YtkhlalpkkmjfnaaW.PrintLast Go.Proofs.YtkhlalpkkmjfnaaW.PrintMore
set_option linter.unusedVariables false
set_option linter.unusedSimpArgs false

theorem cellB_len8 (y : S30) : (cellB true y).length = 8 := by unfold cellB; rw [if_pos rfl, List.length_append, lowN_length, lowN_length]
theorem dRows_cons (x : Int) (y : S30) (P : List Int) (C : List S30) : dRows (x :: P) (y :: C) = (x :: cellB true y) ++ dRows P C := by
  unfold dRows
  simp [dCell]
theorem drop_len (h r : List Int) (k : Nat) : (h ++ r).drop (h.length + k) = r.drop k := by rw [← List.drop_drop, List.drop_left]
theorem rowP_next {h r : List Int} (hl : h.length = 9) (i : Nat) : rowP (h ++ r) (i + 1) = rowP r i := by
  unfold rowP
  rw [show 9 * (i + 1) = h.length + 9 * i by omega, drop_len]
theorem rowC_next {h r : List Int} (hl : h.length = 9) (i : Nat) : rowC (h ++ r) (i + 1) = rowC r i := by
  unfold rowC
  rw [show 9 * (i + 1) + 1 = h.length + (9 * i + 1) by omega, show 9 * (i + 1) + 5 = h.length + (9 * i + 5) by omega, drop_len, drop_len]
theorem pL_cons {h r : List Int} (hl : h.length = 9) (k : Nat) : pL (h ++ r) (k + 1) = rowP (h ++ r) 0 :: pL r k := by
  unfold pL
  rw [List.range_succ_eq_map, List.map_cons, List.map_map]
  congr 1
  exact List.map_congr_left fun i _ => rowP_next hl i
theorem cL_cons {h r : List Int} (hl : h.length = 9) (k : Nat) : cL (h ++ r) (k + 1) = rowC (h ++ r) 0 :: cL r k := by
  unfold cL
  rw [List.range_succ_eq_map, List.map_cons, List.map_map]
  congr 1
  exact List.map_congr_left fun i _ => rowC_next hl i
theorem leN_low : ∀ (s x : Nat), x < 256 ^ s → leN (lowN x s) = (x : Int)
  | 0, x, h => by
    have : x = 0 := by simpa using h
    subst this; rfl
  | s + 1, x, h => by
    have h1 : x / 256 < 256 ^ s := by rw [Nat.pow_succ] at h; exact Nat.div_lt_of_lt_mul (by omega)
    have := leN_low s (x / 256) h1
    simp only [lowN, leN, this]
    omega
def I32p (n : Int) : Prop := -2147483648 ≤ n ∧ n < 2147483648
theorem row0 (x : Int) (y : S30) (r : List Int) (h0 : I32p y.f0) (h1 : U32 y.f1) : rowP ((x :: cellB true y) ++ r) 0 = x ∧ rowC ((x :: cellB true y) ++ r) 0 = y := by
  refine ⟨rfl, ?_⟩
  unfold rowC cellB
  rw [if_pos rfl]
  have e1 : (((x :: (lowN (y.f0 % 4294967296).toNat 4 ++ lowN y.f1.toNat 4)) ++ r).drop (9 * 0 + 1)).take 4 = lowN (y.f0 % 4294967296).toNat 4 := by
    show ((lowN (y.f0 % 4294967296).toNat 4 ++ lowN y.f1.toNat 4) ++ r).take 4 = _
    rw [List.append_assoc, List.take_append_of_le_length (by rw [lowN_length]; omega), List.take_of_length_le (by rw [lowN_length]; omega)]
  have e2 : (((x :: (lowN (y.f0 % 4294967296).toNat 4 ++ lowN y.f1.toNat 4)) ++ r).drop (9 * 0 + 5)).take 4 = lowN y.f1.toNat 4 := by
    show (((lowN (y.f0 % 4294967296).toNat 4 ++ lowN y.f1.toNat 4) ++ r).drop 4).take 4 = _
    have e4 : (4 : Nat) = (lowN (y.f0 % 4294967296).toNat 4).length := (lowN_length _ _).symm
    rw [List.append_assoc]
    have e5 : (lowN (y.f0 % 4294967296).toNat 4 ++ (lowN y.f1.toNat 4 ++ r)).drop 4 = lowN y.f1.toNat 4 ++ r := List.drop_left' (lowN_length _ _)
    rw [e5, List.take_append_of_le_length (by rw [lowN_length]; omega), List.take_of_length_le (by rw [lowN_length]; omega)]
  rw [e1, e2]
  unfold I32p at h0
  unfold U32 at h1
  rw [leN_low 4 _ (by omega), leN_low 4 _ (by omega)]
  obtain ⟨a, b⟩ := y
  simp only at h0 h1 ⊢
  congr 1
  · unfold wrap32; omega
  · omega
theorem rows_back : ∀ (P : List Int) (C : List S30), P.length = C.length → (∀ y ∈ C, I32p y.f0 ∧ U32 y.f1) → (dRows P C).length = 9 * P.length ∧ pL (dRows P C) P.length = P ∧ cL (dRows P C) P.length = C
  | [], [], _, _ => ⟨rfl, rfl, rfl⟩
  | x :: P, y :: C, h, hU => by
    have hl : (x :: cellB true y).length = 9 := by rw [List.length_cons, cellB_len8]
    obtain ⟨k1, k2, k3⟩ := rows_back P C (by simpa using h) (fun z hz => hU z (List.mem_cons_of_mem _ hz))
    obtain ⟨r1, r2⟩ := row0 x y (dRows P C) (hU y List.mem_cons_self).1 (hU y List.mem_cons_self).2
    rw [dRows_cons, List.length_cons, pL_cons hl, cL_cons hl, r1, r2, k2, k3]
    refine ⟨?_, rfl, rfl⟩
    rw [List.length_append, hl, k1]; omega
/-- A right delta's bytes, read. -/
theorem parse_back (tk hs : Nat) (P : List Int) (C : List S30) (hr : rightB P C.length = true) (htk : tk < 4294967296) (hhs : hs < 4294967296) (hU : ∀ y ∈ C, I32p y.f0 ∧ U32 y.f1) :
    okD (dBytes tk hs P C) = true ∧ leN ((dBytes tk hs P C).take 4) = tk ∧ leN (((dBytes tk hs P C).drop 4).take 4) = hs ∧ pL ((dBytes tk hs P C).drop 9) (cntD (dBytes tk hs P C)) = P ∧ cL ((dBytes tk hs P C).drop 9) (cntD (dBytes tk hs P C)) = C := by
  obtain ⟨hr1, hr2⟩ : risB (-1) P = true ∧ P.length = C.length := by
    unfold rightB at hr
    simp only [Bool.and_eq_true, beq_iff_eq] at hr
    exact hr
  obtain ⟨q1, q2, q3⟩ := risB_le (by omega) (by omega) hr1
  obtain ⟨k1, k2, k3⟩ := rows_back P C hr2 hU
  have hn : P.length % 256 = P.length := Nat.mod_eq_of_lt (by omega)
  have hd : dBytes tk hs P C = lowN tk 4 ++ (lowN hs 4 ++ ((P.length : Int) :: dRows P C)) := by
    unfold dBytes dHead
    rw [hn]; simp
  have e4 : (dBytes tk hs P C).drop 4 = lowN hs 4 ++ ((P.length : Int) :: dRows P C) := by rw [hd]; exact List.drop_left' (lowN_length _ _)
  have e8 : (dBytes tk hs P C).drop 8 = (P.length : Int) :: dRows P C := by
    rw [show (8 : Nat) = 4 + 4 from rfl, ← List.drop_drop, e4]; exact List.drop_left' (lowN_length _ _)
  have e9 : (dBytes tk hs P C).drop 9 = dRows P C := by rw [show (9 : Nat) = 8 + 1 from rfl, ← List.drop_drop, e8]; rfl
  have hc : cntD (dBytes tk hs P C) = P.length := by unfold cntD; rw [e8]; simp
  have hlen : (dBytes tk hs P C).length = 9 + 9 * P.length := by
    rw [hd]; simp only [List.length_append, List.length_cons, lowN_length, k1]; omega
  refine ⟨?_, ?_, ?_, by rw [e9, hc, k2], by rw [e9, hc, k3]⟩
  · unfold okD
    rw [e9, hc, k2, hr1, Bool.and_true]
    exact decide_eq_true ⟨by omega, hlen⟩
  · rw [hd, List.take_left' (lowN_length _ _), leN_low 4 _ (by omega)]
  · rw [e4, List.take_left' (lowN_length _ _), leN_low 4 _ (by omega)]
end Go.Proofs.Ytkhlalpkkmjfnaa

namespace Go.Proofs.Ytkhlalpkkmjfnaa
open Go.RowKit Go.Proofs.YtkhlalpkkmjfnaaW.PrintWords Go.Proofs.YtkhlalpkkmjfnaaW.PrintLast Go.Proofs.YtkhlalpkkmjfnaaW.PrintMore
set_option linter.unusedVariables false
set_option linter.unusedSimpArgs false

/-- A delta that is handed in. -/
structure S41 where
  f0 : Int
  f1 : Int
  f2 : List Int
  f3 : List S30
def k41 : Kd S41 := Kd.iso (Kd.pair (Kd.int .u32) (Kd.pair (Kd.int .u32) (Kd.pair (Kd.slice 5 (Kd.int .u8)) (Kd.slice 30 k30)))) (fun x : S41 => (x.f0, x.f1, x.f2, x.f3))
def OkD (x : S41) : Prop := (Lit.int .u32 x.f0).wf = true ∧ (Lit.int .u32 x.f1).wf = true ∧ (∀ y ∈ x.f2, (Lit.int .u8 y).wf = true) ∧ ∀ y ∈ x.f3, OkC y
theorem delta_in {w : World} {x : S41} {cs : List Value} (h : k41.K w x cs) : DvC w x.f0 x.f1 x.f2 x.f3 (.agg cs.toArray) := by
  obtain ⟨_, _, rfl, rfl, _, _, rfl, rfl, _, _, rfl, ⟨A, c, rfl, h1, h2⟩, ⟨A2, c2, rfl, h3, h4⟩⟩ := h
  exact ⟨A, c, A2, c2, rfl, h1, h3, h2, h4⟩
theorem OkC.i32p {x : S30} (h : OkC x) : I32p x.f0 := by have := bounds_i32 h.1; unfold I32p; omega
/-- What Bytes tells of any delta. -/
def pbD (tk hs : Nat) (P : List Int) (C : List S30) : List Int := if rightB P C.length = true then dBytes tk hs P C else []
theorem pbytes7_any (tk hs : Nat) (P : List Int) (C : List S30) (v : Value) (w : World) (hv : DvC w tk hs P C v) (hP : Bytes P) (hl : P.length < 4611686018427387904) (htk : tk < 4294967296) (hhs : hs < 4294967296) (hU : ∀ x ∈ C, U32 x.f1) :
    Calls Try.prog 14 #[v] w fun e w' => ∃ v', e = .returned v' ∧ (Kd.int .u8).R 5 w' w.heap.size (fun _ => True) v' (pbD tk hs P C) ∧ Below w.heap.size w w' := by
  obtain ⟨A, c, A2, c2, rfl, h2, h3, h4, h5⟩ := hv
  unfold pbD
  by_cases hr : rightB P C.length = true
  · rw [if_pos hr]
    exact dbytes_yes tk hs A A2 _ c _ c2 P C w h4 h2 h5 h3 hr htk hhs hU
  · rw [if_neg hr]
    refine (dbytes_no tk hs A A2 _ c _ c2 P C w h4 h2 h5 h3 hP hl (by simpa using hr)).mono ?_
    rintro e w' ⟨rfl, hb⟩
    exact ⟨_, rfl, Kd.R_nil _ _ _ _ _, hb⟩
theorem dRows_bytes (P : List Int) (C : List S30) (hP : Bytes P) : Bytes (dRows P C) := by
  unfold dRows
  refine Bytes.flatten fun p hp => ?_
  obtain ⟨⟨a, y⟩, hq, rfl⟩ := List.mem_map.1 hp
  unfold dCell
  intro b hb
  rcases List.mem_cons.1 hb with rfl | hb
  · exact hP _ (List.of_mem_zip hq).1
  · exact cellB_bytes true y b hb
theorem dBytes_bytes (tk hs : Nat) (P : List Int) (C : List S30) (hP : Bytes P) : Bytes (dBytes tk hs P C) := by
  unfold dBytes dHead
  refine (((lowN_bytes _ _).append (lowN_bytes _ _)).append fun b hb => ?_).append (dRows_bytes P C hP)
  rw [List.mem_singleton.1 hb]
  have := Nat.mod_lt P.length (show 0 < 256 by omega)
  omega
theorem pbD_bytes (tk hs : Nat) (P : List Int) (C : List S30) (hP : Bytes P) : Bytes (pbD tk hs P C) := by
  unfold pbD; split
  · exact dBytes_bytes tk hs P C hP
  · exact Bytes.nil
theorem dBytes_ge (tk hs : Nat) (P : List Int) (C : List S30) : 9 ≤ (dBytes tk hs P C).length := by
  unfold dBytes dHead
  simp only [List.length_append, lowN_length, List.length_cons, List.length_nil]
  omega
theorem pbD_le (tk hs : Nat) (P : List Int) (C : List S30) : (pbD tk hs P C).length ≤ 9 + 9 * P.length := by
  unfold pbD; split
  · have := dRows_len P C
    unfold dBytes dHead
    simp only [List.length_append, lowN_length, List.length_cons, List.length_nil]
    omega
  · simp
theorem pbD_pos (tk hs : Nat) (P : List Int) (C : List S30) : decide (0 < (pbD tk hs P C).length) = rightB P C.length := by
  unfold pbD
  by_cases hr : rightB P C.length = true
  · rw [if_pos hr, hr]; exact decide_eq_true (by have := dBytes_ge tk hs P C; omega)
  · rw [if_neg hr]
    have : rightB P C.length = false := by simpa using hr
    rw [this]; rfl
/-- What both Parses tell of any bytes: the same delta. -/
def tkQ (q : List Int) : Int := if okD q = true then leN (q.take 4) else 0
def hsQ (q : List Int) : Int := if okD q = true then leN ((q.drop 4).take 4) else 0
def plQ (q : List Int) : List Int := if okD q = true then pL (q.drop 9) (cntD q) else []
def clQ (q : List Int) : List S30 := if okD q = true then cL (q.drop 9) (cntD q) else []
def ecD (q : List Int) : Int := if okD q = true then 0 else 2
theorem clQ_300 (q : List Int) (hq : Bytes q) : (clQ q).length ≤ 300 := by
  unfold clQ
  split
  · rw [cL_len]
    unfold cntD
    cases hx : q.drop 8 with
    | nil => simp
    | cons x l =>
      have := hq x (List.mem_of_mem_drop (by rw [hx]; exact List.mem_cons_self))
      show x.toNat ≤ 300
      omega
  · simp
theorem parse_form {q : List Int} {b : Nat} {w' : World} {e : Ending} (h : ParseR q b w' e) : ∃ A n c A2 m c2, e = .returned (.tuple #[.agg #[.int .u32 (tkQ q), .int .u32 (hsQ q), .slice A n c, .slice A2 m c2], .int .i64 (ecD q)]) ∧
    DvC w' (tkQ q) (hsQ q) (plQ q) (clQ q) (.agg #[.int .u32 (tkQ q), .int .u32 (hsQ q), .slice A n c, .slice A2 m c2]) := by
  unfold ParseR at h
  unfold tkQ hsQ plQ clQ ecD
  by_cases hk : okD q = true
  · simp only [hk, if_true] at h ⊢
    obtain ⟨v, rfl, hv⟩ := h
    obtain ⟨A, c, A2, c2, rfl, h1, h2, h3, h4⟩ := hv.cells
    exact ⟨A, _, c, A2, _, c2, rfl, A, c, A2, c2, rfl, h1, h2, h3, h4⟩
  · simp only [hk, if_false] at h ⊢
    subst h
    exact ⟨none, 0, 0, none, 0, 0, rfl, none, 0, none, 0, rfl, Nat.le_refl _, Nat.le_refl _, Kd.C_nil _ _, Kd.C_nil _ _⟩
theorem rparse_form {q : List Int} {w' : World} {e : Ending} (h : RParseR q w' e) : ∃ A n c A2 m c2, e = .returned (.tuple #[.agg #[.int .u32 (tkQ q), .int .u32 (hsQ q), .slice A n c, .slice A2 m c2], .bool (okD q)]) ∧
    DrC w' (tkQ q) (hsQ q) (plQ q) ((clQ q).map toR) (.agg #[.int .u32 (tkQ q), .int .u32 (hsQ q), .slice A n c, .slice A2 m c2]) := by
  unfold RParseR at h
  unfold tkQ hsQ plQ clQ
  by_cases hk : okD q = true
  · simp only [hk, if_true] at h ⊢
    obtain ⟨v, rfl, hv⟩ := h
    obtain ⟨A, c, A2, c2, rfl, h1, h2, h3, h4⟩ := hv
    exact ⟨A, _, c, A2, _, c2, rfl, A, c, A2, c2, rfl, h1, h2, h3, h4⟩
  · simp only [hk, if_false] at h ⊢
    subst h
    have hf : okD q = false := by simpa using hk
    exact ⟨none, 0, 0, none, 0, 0, rfl, none, 0, none, 0, rfl, Nat.le_refl _, Nat.le_refl _, Kd.C_nil _ _, Kd.C_nil _ _⟩
/-- What Parse tells of a right delta's bytes. -/
theorem parse_right {tk hs : Nat} {P : List Int} {C : List S30} {pb : List Int} {b : Nat} {w' : World} {e : Ending} (hpb : dBytes tk hs P C = pb) (hr : rightB P C.length = true) (htk : tk < 4294967296) (hhs : hs < 4294967296) (hU : ∀ y ∈ C, I32p y.f0 ∧ U32 y.f1) (h : ParseR pb b w' e) :
    ∃ v, e = .returned (.tuple #[v, .int .i64 0]) ∧ OfR b w' tk hs P C v := by
  obtain ⟨k1, k2, k3, k4, k5⟩ := parse_back tk hs P C hr htk hhs hU
  rw [hpb] at k1 k2 k3 k4 k5
  unfold ParseR at h
  rw [if_pos k1, k2, k3, k4, k5] at h
  exact h
/-- A byte of a row of one's own is written. -/
theorem R_put8 {w : World} {b g n c : Nat} {l : List Int} {j : Nat} {x : Int} (h : (Kd.int .u8).R 5 w b (fun _ => True) (.slice (some ⟨g, 0, none⟩) n c) l) (hj : j < l.length) :
    (Kd.int .u8).R 5 (w.setCell ⟨g, j, none⟩ (.int .u8 x)) b (fun _ => True) (.slice (some ⟨g, 0, none⟩) n c) (l.set j x) := by
  have hown := Kd.own_of_R (enc := Value.int .u8) (h1 := fun _ => rfl) h
  have hn : l.length = n := (Ru_C h).1
  subst hn
  have hst := (own_store (k := .u8) hown (j : Int) x).1
  rw [Int.toNat_natCast] at hst
  exact Kd.R_of_own (enc := Value.int .u8) (h1 := fun _ => rfl) (xs := l.set j x) (by rw [List.length_set]; exact hst) (fun _ _ => trivial)
end Go.Proofs.Ytkhlalpkkmjfnaa
