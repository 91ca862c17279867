/- The parts of this proof, one behind the other: contracts of the functions, plain laws, the walk. -/
import Derived.Test.YticpjidcgaaldaaMsab
import Derived.Test.YticpjidcgaaldaaProg
import Derived.Below
import Derived.Deep.Draws
import Derived.Deep.AppendLies
import Derived.Maps.AppendAt
import Derived.OwnWalk
import Derived.Laws.BytesArg
import Derived.Laws.MakeOwn
import Derived.Laws.OwnMore
import Derived.Deep.OwnRows
import Derived.Tactics
import Derived.Lib.ConvBytes
import Derived.Laws.Slices
import Derived.WalkKit
import Derived.KernelRfl
import Derived.RowKit3
import Derived.Deep.LoopGhost
import Derived.Deep.QuietTactic
import Derived.BigQuiet
import Derived.WideLaws
import Derived.Deep.DeepCutAuto
import Derived.Deep.CutBlock
import Derived.Deep.RegionHeld3
import Derived.Laws.Rows
import Derived.Lib.AppendStr
import Derived.ArgAppend
import Derived.Laws.IdiomCopy
import Derived.OrdersHeld
import Derived.Laws.BitsLemmas
import Derived.RowKit
import Derived.Test.YticpjidcgaaldaaWWords
import Derived.Test.YticpjidcgaaldaaWLast
import Derived.Test.YticpjidcgaaldaaWTab
import Derived.Test.YticpjidcgaaldaaWQPut
import Derived.Test.YticpjidcgaaldaaWApart
import Derived.Test.YticpjidcgaaldaaWArr
import Derived.Test.YticpjidcgaaldaaWZeros
import Derived.Test.YticpjidcgaaldaaWFoot
import Derived.Test.YticpjidcgaaldaaWKept
import Derived.Test.YticpjidcgaaldaaWShare
import Derived.Test.YticpjidcgaaldaaWN
import Derived.Test.YticpjidcgaaldaaWEqStruct
import Derived.Test.YticpjidcgaaldaaWNEv
import Derived.Test.YticpjidcgaaldaaWMore
namespace Go.Proofs.Yticpjidcgaaldaa
open Go.RowKit Go.Proofs.YticpjidcgaaldaaW.PrintWords Go.Proofs.YticpjidcgaaldaaW.PrintLast Go.Proofs.YticpjidcgaaldaaW.PrintMore
set_option linter.unusedVariables false
set_option linter.unusedSimpArgs false

structure MRes where
  ok : Bool
  k : Int
  t : Int
  m : Int
  tk : Int
  hs : Int
  P : List Int
  C : List S59
def badR : MRes := ⟨false, 0, 0, 0, 0, 0, [], []⟩
def readR : List Int → MRes
  | [] => badR
  | x :: r => if x = 2 then (if r.length = 8 then ⟨true, 2, leN (r.take 4), leN ((r.drop 4).take 4), 0, 0, [], []⟩ else badR)
    else if x = 5 ∨ x = 6 then (if okD r = true then ⟨true, x, tkQ r, 0, tkQ r, hsQ r, plQ r, clQ r⟩ else badR)
    else if x = 1 ∨ x = 3 ∨ x = 4 then (if r.length = 0 then ⟨true, x, 0, 0, 0, 0, [], []⟩ else badR) else badR
theorem readR_two (r : List Int) : readR (2 :: r) = if r.length = 8 then ⟨true, 2, leN (r.take 4), leN ((r.drop 4).take 4), 0, 0, [], []⟩ else badR := by simp only [readR, if_true]
theorem readR_five {x : Int} (r : List Int) (h2 : ¬ x = 2) (h : x = 5 ∨ x = 6) : readR (x :: r) = if okD r = true then ⟨true, x, tkQ r, 0, tkQ r, hsQ r, plQ r, clQ r⟩ else badR := by simp only [readR]; rw [if_neg h2, if_pos h]
theorem readR_oth {x : Int} (r : List Int) (h2 : ¬ x = 2) (h : ¬ (x = 5 ∨ x = 6)) : readR (x :: r) = if x = 1 ∨ x = 3 ∨ x = 4 then (if r.length = 0 then ⟨true, x, 0, 0, 0, 0, [], []⟩ else badR) else badR := by simp only [readR]; rw [if_neg h2, if_neg h]
theorem OfR.msg {b : Nat} {w : World} {k t m tk hs : Int} {P : List Int} {C : List S59} {x y : Value} (h : OfR b w tk hs P C (.agg #[.int .u32 tk, .int .u32 hs, x, y])) : MsC w k t m tk hs P C (.agg #[.int .u8 k, .int .u32 t, .int .u32 m, .int .u32 tk, .int .u32 hs, x, y]) := by
  obtain ⟨A, c, A2, c2, he, h1, h2, h3, h4⟩ := h.cells
  injection he with he
  simp only [Array.mk.injEq, List.cons.injEq, and_true, true_and] at he
  obtain ⟨rfl, rfl⟩ := he
  exact ⟨A, c, A2, c2, rfl, h1, h2, h3, h4⟩
theorem parse_formR {q : List Int} {b : Nat} {w' : World} {e : Ending} (h : ParseR q b w' e) : ∃ A n c A2 m c2, e = .returned (.tuple #[.agg #[.int .u32 (tkQ q), .int .u32 (hsQ q), .slice A n c, .slice A2 m c2], .int .i64 (ecD q)]) ∧
    OfR b w' (tkQ q) (hsQ q) (plQ q) (clQ q) (.agg #[.int .u32 (tkQ q), .int .u32 (hsQ q), .slice A n c, .slice A2 m c2]) := by
  unfold ParseR at h
  unfold tkQ hsQ plQ clQ ecD
  by_cases hk : okD q = true
  · simp only [hk, if_true] at h ⊢
    obtain ⟨v, rfl, hv⟩ := h
    obtain ⟨A, c, A2, c2, rfl, h1, h2, h3, h4⟩ := hv
    exact ⟨A, _, c, A2, _, c2, rfl, A, c, A2, c2, rfl, h1, h2, h3, h4⟩
  · simp only [hk, if_false] at h ⊢
    subst h
    exact ⟨none, 0, 0, none, 0, 0, rfl, none, 0, none, 0, rfl, Nat.le_refl _, Nat.le_refl _, Kd.R_nil _ _ _ _ _, Kd.R_nil _ _ _ _ _⟩
theorem Hp.eyeL {B0 B ge : Nat} {w0 w w' : World} {L : List (Nat × Obj)} {l : List Int} {b : Bool} (h : Hp B0 w0 w L []) (he : EyTo w w' ge B l b) (h0 : B0 ≤ ge) (hne : ∀ p ∈ L, p.1 ≠ ge) : Hp B0 w0 w' L [] :=
  ⟨h.1.trans (he.2.2.mono h0), fun p hp => ⟨(he.2.1.2 p.1 (blk_lt (h.2.1 p hp).1) (hne p hp) (by simp)).trans (h.2.1 p hp).1, (h.2.1 p hp).2⟩, h.2.2.1, Nat.le_trans h.le he.2.1.1, fun φ hφ => by cases hφ⟩
theorem zero_msg (w : World) : (zeroValue 28).run Try.prog w = .ok (.agg #[.int .u8 0, .int .u32 0, .int .u32 0, .int .u32 0, .int .u32 0, .slice none 0 0, .slice none 0 0]) w := by kernel_rfl
theorem MsC_zero (w : World) (k t m : Int) : MsC w k t m 0 0 [] [] (.agg #[.int .u8 k, .int .u32 t, .int .u32 m, .int .u32 0, .int .u32 0, .slice none 0 0, .slice none 0 0]) :=
  ⟨none, 0, none, 0, rfl, Nat.le_refl _, Nat.le_refl _, Kd.C_nil _ _, Kd.C_nil _ _⟩
theorem OkM_zero {k t m : Int} (hk : 0 ≤ k ∧ k < 256) (ht : 0 ≤ t ∧ t < 4294967296) (hm : 0 ≤ m ∧ m < 4294967296) : OkM k t m 0 0 [] [] := ⟨hk, ht, hm, by omega, by omega, Bytes.nil, (fun y hy => by cases hy), by simp, by simp⟩
def ReadM (q : List Int) (w' : World) (e : Ending) : Prop := ∃ v, e = .returned (.tuple #[v, .int .i64 (if (readR q).ok = true then 0 else 2)]) ∧ MsC w' (readR q).k (readR q).t (readR q).m (readR q).tk (readR q).hs (readR q).P (readR q).C v
theorem ReadM.of {q : List Int} {r : MRes} {w' : World} {v : Value} (hq : readR q = r) (hv : MsC w' r.k r.t r.m r.tk r.hs r.P r.C v) : ReadM q w' (.returned (.tuple #[v, .int .i64 (if r.ok = true then 0 else 2)])) := by
  subst hq; exact ⟨v, rfl, hv⟩

set_option maxRecDepth 100000 in
set_option maxHeartbeats 16000000 in
theorem mread_any (A : Option Addr) (n c : Nat) (q : List Int) (w00 : World) (hq : (Kd.int .u8).C w00 A n q) (hc : n ≤ c) (hn : n ≤ 100000000) (hb : Bytes q) :
    Calls Try.prog 17 #[.slice A n c] w00 fun e w' => ReadM q w' e ∧ Below w00.heap.size w00 w' := by
  have HF : Aside0 (∀ z, Below w00.heap.size w00 z → (Kd.int .u8).C z A n q) := ⟨fun z hz => Kd.C_below hq hz⟩
  obtain ⟨B, hB⟩ : ∃ B, w00.heap.size = B := ⟨_, rfl⟩
  have H0 := Aside0.mk ((Hp.start w00).allocAt (.cells #[.int .u8 0, .int .u32 0, .int .u32 0, .int .u32 0, .int .u32 0, .slice none 0 0, .slice none 0 0] 28) B hB)
  rw [hB] at H0 HF
  rw [hB]
  have HN := Aside0.mk (And.intro hn (And.intro hc hq.1))
  have HBQ := Aside0.mk hb
  have KR := Aside0.mk (fun (z : World) (h : Below B w00 z) => read_any A n c q z (HF.out z h) hn)
  have HB := Aside0.mk hB
  have hz7 := zero_msg
  clear hq hn hb hc
  go_enter Try.func17, Try.ntmps17
  go_wp2_with fail
  clear hB
  refine (KR.out _ H0.out.bel).mono ?_
  rintro e w1 ⟨ge, rfl, hge, hEy, hb1⟩
  obtain ⟨BB, hBB⟩ : ∃ BB, w1.heap.size = BB := ⟨_, rfl⟩
  rw [hBB] at hEy
  have hgB : ge < BB := by obtain ⟨_, _, _, _, _, _, _, h5⟩ := hEy; exact h5
  have hge2 : B < ge := Nat.lt_of_lt_of_le (H0.out.lt (i := 0) rfl) hge
  have HGE := Aside0.mk (And.intro hge2 (And.intro hgB (show BB ≤ w1.heap.size by omega)))
  have H1 := Aside0.mk (H0.out.call hb1)
  have HE1 := Aside0.mk hEy
  clear hge hEy hb1 hBB hge2 hgB H0 KR
  obtain ⟨⟨x, l1, b1⟩, e1⟩ : ∃ y, eByte q false = y := ⟨_, rfl⟩
  have K1 := ebyte_any ge BB q false w1 HE1.out
  rw [e1] at K1
  have KK1 := Aside0.mk K1
  have HEB := Aside0.mk e1
  clear K1 e1
  go_wp2_with fail
  refine KK1.out.mono ?_
  rintro e w2 ⟨rfl, he2⟩
  have H2 := Aside0.mk (H1.out.eyeL he2 (Nat.le_of_lt HGE.out.1) (fun p hp => by obtain rfl := List.mem_singleton.1 hp; exact Nat.ne_of_lt HGE.out.1))
  have HE2 := Aside0.mk he2.1
  have HS2 : Aside0 (ge < w2.heap.size ∧ BB ≤ w2.heap.size) := ⟨Nat.lt_of_lt_of_le HGE.out.2.1 (Nat.le_trans HGE.out.2.2 he2.2.1.1), Nat.le_trans HGE.out.2.2 he2.2.1.1⟩
  clear he2 H1 HE1 KK1
  obtain ⟨g5, hg5⟩ : ∃ g5, w2.heap.size = g5 := ⟨_, rfl⟩
  have H3 := Aside0.mk (H2.out.allocAt (.cells #[.int .u8 x, .int .u32 0, .int .u32 0, .int .u32 0, .int .u32 0, .slice none 0 0, .slice none 0 0] 28) g5 hg5)
  have HE3 := Aside0.mk (HE2.out.below ((below_alloc (Below.refl w2.heap.size w2) (.cells #[.int .u8 x, .int .u32 0, .int .u32 0, .int .u32 0, .int .u32 0, .slice none 0 0, .slice none 0 0] 28)).mono HS2.out.2) HS2.out.2)
  have HG5 : Aside0 (ge < g5 ∧ B < g5 ∧ BB ≤ g5) := ⟨by rw [← hg5]; exact HS2.out.1, by have := HGE.out.1; have := HS2.out.1; omega, by rw [← hg5]; exact HS2.out.2⟩
  clear H2 HE2 HS2
  have HG5E := Aside0.mk hg5
  have HX : Aside0 (0 ≤ x ∧ x < 256) := ⟨by have := (eByte_b (bad := false) HBQ.out).1; rw [HEB.out] at this; exact this⟩
  have HBL1 : Aside0 (Bytes l1) := ⟨by have := (eByte_b (bad := false) HBQ.out).2; rw [HEB.out] at this; exact this⟩
  have HQ : Aside0 ((q = [] ∧ x = 0 ∧ l1 = [] ∧ b1 = true) ∨ (q = x :: l1 ∧ b1 = false)) := ⟨by
    have e1 := HEB.out
    cases q with
    | nil => rw [eByte_short (by simp)] at e1; simp only [Prod.mk.injEq] at e1; exact .inl ⟨rfl, e1.1.symm, e1.2.1.symm, e1.2.2.symm⟩
    | cons y r => rw [eByte_good (by simp)] at e1; simp only [Prod.mk.injEq] at e1; obtain ⟨rfl, rfl, rfl⟩ := e1; exact .inr ⟨rfl, rfl⟩⟩
  clear HEB
  by_cases x2 : x = 2
  · subst x2
    have HQ2 : Aside0 (q = 2 :: l1 ∧ b1 = false) := ⟨by rcases HQ.out with h | h; exact absurd h.2.1 (by decide); exact h⟩
    obtain rfl := HQ2.out.2
    obtain ⟨⟨t, l2, b2⟩, e2⟩ : ∃ y, eFix 4 l1 false = y := ⟨_, rfl⟩
    obtain ⟨⟨m, l3, b3⟩, e3⟩ : ∃ y, eFix 4 l2 b2 = y := ⟨_, rfl⟩
    have hBl2 : Bytes l2 := by have := eFix_b (bad := false) 4 HBL1.out; rw [e2] at this; exact this
    have KK2 := Aside0.mk (fun (X : World) (hx : Ey X ge BB l1 false) => eword_any ge BB l1 false X hx HBL1.out)
    have KK3 := Aside0.mk (fun (X : World) (hx : Ey X ge BB l2 b2) => eword_any ge BB l2 b2 X hx hBl2)
    rw [e2] at KK2
    rw [e3] at KK3
    have HT2 : Aside0 ((b3 = true ∨ 0 < l3.length → readR q = badR) ∧ (¬ (b3 = true ∨ 0 < l3.length) → readR q = ⟨true, 2, t, m, 0, 0, [], []⟩) ∧ (0 ≤ t ∧ t < 4294967296) ∧ 0 ≤ m ∧ m < 4294967296) := ⟨by
      rw [HQ2.out.1, readR_two]
      by_cases h4 : 4 ≤ l1.length
      · rw [eFix_good h4] at e2
        simp only [Prod.mk.injEq] at e2
        obtain ⟨rfl, rfl, rfl⟩ := e2
        have ht := leN4 HBL1.out
        by_cases h8 : 8 ≤ l1.length
        · rw [eFix_good (by rw [List.length_drop]; omega)] at e3
          simp only [Prod.mk.injEq] at e3
          obtain ⟨rfl, rfl, rfl⟩ := e3
          have hm := leN4 (HBL1.out.drop 4)
          rw [List.drop_drop, List.length_drop]
          unfold U32 at ht hm
          refine ⟨fun h => ?_, fun h => ?_, ht, hm⟩
          · rw [if_neg (by rcases h with h | h; cases h; omega)]
          · rw [if_pos (by have := fun q => h (.inr q); omega)]
        · rw [eFix_short (by rw [List.length_drop]; omega)] at e3
          simp only [Prod.mk.injEq] at e3
          obtain ⟨rfl, rfl, rfl⟩ := e3
          unfold U32 at ht
          exact ⟨fun h => by rw [if_neg (by omega)], fun h => absurd (.inl rfl) h, ht, by omega, by omega⟩
      · rw [eFix_short (by omega)] at e2
        simp only [Prod.mk.injEq] at e2
        obtain ⟨rfl, rfl, rfl⟩ := e2
        rw [eFix_bad] at e3
        simp only [Prod.mk.injEq] at e3
        obtain ⟨rfl, rfl, rfl⟩ := e3
        exact ⟨fun h => by rw [if_neg (by omega)], fun h => absurd (.inl rfl) h, by omega, by omega, by omega⟩⟩
    clear e2 e3 hBl2
    go_wp2_with fail
    generalize w2.alloc (.cells #[.int .u8 2, .int .u32 0, .int .u32 0, .int .u32 0, .int .u32 0, .slice none 0 0, .slice none 0 0] 28) = W3 at *
    clear hg5
    refine (KK2.out _ HE3.out).mono ?_
    rintro e w4 ⟨rfl, he4⟩
    have H4 := Aside0.mk (H3.out.eyeL he4 (Nat.le_of_lt HGE.out.1) (fun p hp => by
      simp only [List.mem_cons, List.not_mem_nil, or_false] at hp
      rcases hp with rfl | rfl
      · exact Nat.ne_of_gt HG5.out.1
      · exact Nat.ne_of_lt HGE.out.1))
    have HE4 := Aside0.mk he4.1
    clear he4 H3 HE3 KK2
    go_wp2_with fail
    refine (KK3.out _ HE4.out).mono ?_
    rintro e w5 ⟨rfl, he5⟩
    have H5 := Aside0.mk (H4.out.eyeL he5 (Nat.le_of_lt HGE.out.1) (fun p hp => by
      simp only [List.mem_cons, List.not_mem_nil, or_false] at hp
      rcases hp with rfl | rfl
      · exact Nat.ne_of_gt HG5.out.1
      · exact Nat.ne_of_lt HGE.out.1))
    have HE5 := Aside0.mk he5.1
    have HS5 : Aside0 (BB ≤ w5.heap.size) := ⟨Nat.le_trans HG5.out.2.2 (Nat.le_of_lt (H5.out.lt (i := 0) rfl))⟩
    clear he5 H4 HE4 KK3
    have c1 := blk_cell (H5.out.get (i := 0) rfl) 1
    have c2 := blk_cell (H5.out.get (i := 0) rfl) 2
    have f1 := blk_frozen (H5.out.get (i := 0) rfl) 1
    have f2 := blk_frozen (H5.out.get (i := 0) rfl) 2
    go_wp2_with fail
    clear c1 c2 f1 f2
    have H6 := Aside0.mk ((H5.out.setCell (i := 0) rfl 1 (.int .u32 t)).setCell (i := 0) rfl 2 (.int .u32 m))
    have HE6 := Aside0.mk (HE5.out.below (((Below.refl BB w5).setCell (p := ⟨g5, 1, none⟩) HG5.out.2.2 (.int .u32 t)).setCell (p := ⟨g5, 2, none⟩) HG5.out.2.2 (.int .u32 m)) HS5.out)
    clear H5 HE5 HS5
    generalize (w5.setCell ⟨g5, 1, none⟩ (.int .u32 t)).setCell ⟨g5, 2, none⟩ (.int .u32 m) = W6 at *
    have H7 : Aside0 (Hp B w00 W6 [(g5, .cells #[.int .u8 2, .int .u32 t, .int .u32 m, .int .u32 0, .int .u32 0, .slice none 0 0, .slice none 0 0] 28 (0, 0)), (B, .cells #[.int .u8 0, .int .u32 0, .int .u32 0, .int .u32 0, .int .u32 0, .slice none 0 0, .slice none 0 0] 28 (0, 0))] []) := ⟨H6.out⟩
    clear H6
    refine (done_any ge BB l3 b3 W6 HE6.out).mono ?_
    rintro e w7 ⟨rfl, rfl⟩
    by_cases hd : b3 = true ∨ 0 < l3.length
    · rw [if_pos hd]
      have HDD := Aside0.mk (HT2.out.1 hd)
      clear hd
      go_wp2_with (first | (refine wpList_store_row rfl 28 (.tmp 2) (.tmp 49) rfl B #[.int .u8 0, .int .u32 0, .int .u32 0, .int .u32 0, .int .u32 0, .slice none 0 0, .slice none 0 0] rfl rfl 28 _ (H7.out.get (i := 1) rfl) (msg_info _ _ _ _ _ _ _) rfl (by simp [Value.oneCell']) ?_))
      have H9 := Aside0.mk (H7.out.setRow (i := 1) rfl #[.int .u8 0, .int .u32 0, .int .u32 0, .int .u32 0, .int .u32 0, .slice none 0 0, .slice none 0 0])
      have HRQ : Aside0 (readR q = badR) := ⟨HDD.out⟩
      refine bodyPost_ret (results_ct rfl _ _ B _ #[.int .u8 0, .int .u32 0, .int .u32 0, .int .u32 0, .int .u32 0, .slice none 0 0, .slice none 0 0] (0, 0) _ rfl (H9.out.get (i := 1) rfl) Try.underlying28 rfl (msg_info _ _ _ _ _ _ _)) rfl ?_
      exact ⟨ReadM.of HRQ.out (MsC_zero _ 0 0 0), H9.out.bel⟩
    · rw [if_neg hd]
      have HDD := Aside0.mk (HT2.out.2.1 hd)
      clear hd
      go_wp2_with (first | (refine wpList_load_row_g 28 (.tmp 5) rfl g5 rfl rfl 28 _ (0, 0) _ (H7.out.get (i := 0) rfl) Try.underlying28 rfl (msg_info _ _ _ _ _ _ _) ?_))
      refine (mright_any 2 t m 0 0 [] [] _ _ (MsC_zero _ _ _ _) (OkM_zero (by omega) HT2.out.2.2.1 HT2.out.2.2.2)).mono ?_
      rintro e w8 ⟨rfl, hb8⟩
      have H8 := Aside0.mk (H7.out.call hb8)
      rw [show rightM 2 t m 0 0 [] [] = true by unfold rightM isZ; simp]
      clear hb8 H7 HE6
      go_wp2_with (first | (refine wpList_load_row_g 28 (.tmp 5) rfl g5 rfl rfl 28 _ (0, 0) _ (H8.out.get (i := 0) rfl) Try.underlying28 rfl (msg_info _ _ _ _ _ _ _) ?_) | (refine wpList_store_row rfl 28 (.tmp 2) (.tmp 50) rfl B #[.int .u8 2, .int .u32 t, .int .u32 m, .int .u32 0, .int .u32 0, .slice none 0 0, .slice none 0 0] rfl rfl 28 _ (H8.out.get (i := 1) rfl) (msg_info _ _ _ _ _ _ _) rfl (by simp [Value.oneCell']) ?_))
      have H9 := Aside0.mk ((H8.out).setRow (i := 1) rfl #[.int .u8 2, .int .u32 t, .int .u32 m, .int .u32 0, .int .u32 0, .slice none 0 0, .slice none 0 0])
      have HRQ : Aside0 (readR q = ⟨true, 2, t, m, 0, 0, [], []⟩) := ⟨HDD.out⟩
      refine bodyPost_ret (results_ct rfl _ _ B _ #[.int .u8 2, .int .u32 t, .int .u32 m, .int .u32 0, .int .u32 0, .slice none 0 0, .slice none 0 0] (0, 0) _ rfl (H9.out.get (i := 1) rfl) Try.underlying28 rfl (msg_info _ _ _ _ _ _ _)) rfl ?_
      exact ⟨ReadM.of HRQ.out (MsC_zero _ _ _ _), H9.out.bel⟩
  · skip
    by_cases x5 : x = 5
    · subst x5
      have HQ2 : Aside0 (q = 5 :: l1 ∧ b1 = false) := ⟨by rcases HQ.out with h | h; exact absurd h.2.1 (by decide); exact h⟩
      have hq1 : n = l1.length + 1 := by have := HN.out.2.2; rw [HQ2.out.1] at this; simpa using this.symm
      obtain ⟨A9, z1, z2, _⟩ := eye_lo (P := Try.prog) .u8 .i64 23 5 1 Try.underlying23 np_info A n c 1 (by omega) HN.out.2.1
      have hn1 : (1 : Int) ≤ n := by omega
      clear hq1
      have Z1 : Aside0 (∀ W : World, (Instr.slice 23 (.slice A n c) (some (.int .i64 1)) none none).run Try.prog W = .ok (.slice A9 (n - 1) (c - 1)) W) := ⟨fun W => z1 W⟩
      have Z2 : Aside0 (∀ z, Below B w00 z → (Kd.int .u8).C z A9 (n - 1) l1) := ⟨fun z hz => by have := z2 z q (HF.out z hz); rw [HQ2.out.1] at this; exact this⟩
      clear z1 z2
      have z1 := Z1.out
      go_wp2_with fail
      generalize w2.alloc (.cells #[.int .u8 5, .int .u32 0, .int .u32 0, .int .u32 0, .int .u32 0, .slice none 0 0, .slice none 0 0] 28) = W3 at *
      clear z1 Z1 hg5
      refine (parse_any A9 (n - 1) (c - 1) l1 W3 (Z2.out _ H3.out.bel) (by have := HN.out.1; omega) HBL1.out).mono ?_
      rintro e w4 ⟨hp4, hb4⟩
      obtain ⟨A5, n5, c5, A6, n6, c6, rfl, hD4⟩ := parse_formR hp4
      obtain ⟨g6, hg6⟩ : ∃ g6, w4.heap.size = g6 := ⟨_, rfl⟩
      have H4 := Aside0.mk ((H3.out.ofR hb4 hD4).allocAt (.cells #[.int .u32 (tkQ l1), .int .u32 (hsQ l1), .slice A5 n5 c5, .slice A6 n6 c6] 26) g6 hg6)
      clear hp4 hb4 hD4 H3 HE3
      obtain ⟨β, hβ⟩ : ∃ β, okD l1 = β := ⟨_, rfl⟩
      have HEC : ecD l1 = if β = true then 0 else 2 := by unfold ecD; rw [hβ]
      have HBE := Aside0.mk hβ
      clear hβ
      cases β with
      | false =>
        rw [if_neg (by decide)] at HEC
        rw [HEC]
        clear HEC
        go_wp2_with (first | (refine wpList_store_row rfl 28 (.tmp 2) (.tmp 34) rfl B #[.int .u8 0, .int .u32 0, .int .u32 0, .int .u32 0, .int .u32 0, .slice none 0 0, .slice none 0 0] rfl rfl 28 _ (H4.out.get (i := 2) rfl) (msg_info _ _ _ _ _ _ _) rfl (by simp [Value.oneCell']) ?_))
        have H9 := Aside0.mk (H4.out.setRow (i := 2) rfl #[.int .u8 0, .int .u32 0, .int .u32 0, .int .u32 0, .int .u32 0, .slice none 0 0, .slice none 0 0])
        have HRQ : Aside0 (readR q = badR) := ⟨by rw [HQ2.out.1, readR_five _ (by decide) (by decide), if_neg (by rw [HBE.out]; decide)]⟩
        refine bodyPost_ret (results_ct rfl _ _ B _ #[.int .u8 0, .int .u32 0, .int .u32 0, .int .u32 0, .int .u32 0, .slice none 0 0, .slice none 0 0] (0, 0) _ rfl (H9.out.get (i := 2) rfl) Try.underlying28 rfl (msg_info _ _ _ _ _ _ _)) rfl ?_
        exact ⟨ReadM.of HRQ.out (MsC_zero _ 0 0 0), H9.out.bel⟩
      | true =>
        rw [if_pos rfl] at HEC
        rw [HEC]
        clear HEC
        go_wp2_with fail
        generalize hW5 : w4.alloc (.cells #[.int .u32 (tkQ l1), .int .u32 (hsQ l1), .slice A5 n5 c5, .slice A6 n6 c6] 26) = W5 at *
        clear hW5 hg6
        refine regionS (W := W5)
          [fun _ v => v = .agg #[.int .u32 (tkQ l1), .int .u32 (hsQ l1), .slice A5 n5 c5, .slice A6 n6 c6],
           fun _ v => v = .pointer (some ⟨g6, 0, none⟩),
           fun _ v => v = .int .u32 (tkQ l1),
           fun _ v => v = .pointer (some ⟨g5, 3, none⟩),
           fun _ _ => True,
           fun _ v => v = .pointer (some ⟨g5, 1, none⟩),
           fun _ _ => True]
          [4, 6]
          (fun t => match t with | 0 => fun (rs : List Value) (w : World) => Hp B w00 w [(g6, .cells #[.int .u32 (tkQ l1), .int .u32 (hsQ l1), .slice A5 n5 c5, .slice A6 n6 c6] 26 (0, 0)), (g5, .cells #[.int .u8 5, .int .u32 0, .int .u32 0, .int .u32 0, .int .u32 0, .slice none 0 0, .slice none 0 0] 28 (0, 0)), (B, .cells #[.int .u8 0, .int .u32 0, .int .u32 0, .int .u32 0, .int .u32 0, .slice none 0 0, .slice none 0 0] 28 (0, 0))] [fun X => OfR B X (tkQ l1) (hsQ l1) (plQ l1) (clQ l1) (.agg #[.int .u32 (tkQ l1), .int .u32 (hsQ l1), .slice A5 n5 c5, .slice A6 n6 c6])] | 1 => fun (rs : List Value) (w : World) => Hp B w00 w [(g6, .cells #[.int .u32 (tkQ l1), .int .u32 (hsQ l1), .slice A5 n5 c5, .slice A6 n6 c6] 26 (0, 0)), (g5, .cells #[.int .u8 5, .int .u32 0, .int .u32 0, .int .u32 (tkQ l1), .int .u32 (hsQ l1), .slice A5 n5 c5, .slice A6 n6 c6] 28 (0, 0)), (B, .cells #[.int .u8 0, .int .u32 0, .int .u32 0, .int .u32 0, .int .u32 0, .slice none 0 0, .slice none 0 0] 28 (0, 0))] [fun X => OfR B X (tkQ l1) (hsQ l1) (plQ l1) (clQ l1) (.agg #[.int .u32 (tkQ l1), .int .u32 (hsQ l1), .slice A5 n5 c5, .slice A6 n6 c6])] | 2 => fun (rs : List Value) (w : World) => Hp B w00 w [(g6, .cells #[.int .u32 (tkQ l1), .int .u32 (hsQ l1), .slice A5 n5 c5, .slice A6 n6 c6] 26 (0, 0)), (g5, .cells #[.int .u8 5, .int .u32 (tkQ l1), .int .u32 0, .int .u32 (tkQ l1), .int .u32 (hsQ l1), .slice A5 n5 c5, .slice A6 n6 c6] 28 (0, 0)), (B, .cells #[.int .u8 0, .int .u32 0, .int .u32 0, .int .u32 0, .int .u32 0, .slice none 0 0, .slice none 0 0] 28 (0, 0))] [fun X => OfR B X (tkQ l1) (hsQ l1) (plQ l1) (clQ l1) (.agg #[.int .u32 (tkQ l1), .int .u32 (hsQ l1), .slice A5 n5 c5, .slice A6 n6 c6])] | _ => fun _ _ => False)
          (fun _ _ _ => True) (fun w => ∃ o, Hp B w00 w [(g6, .cells #[.int .u32 (tkQ l1), .int .u32 (hsQ l1), .slice A5 n5 c5, .slice A6 n6 c6] 26 (0, 0)), (g5, o), (B, .cells #[.int .u8 0, .int .u32 0, .int .u32 0, .int .u32 0, .int .u32 0, .slice none 0 0, .slice none 0 0] 28 (0, 0))] [fun X => OfR B X (tkQ l1) (hsQ l1) (plQ l1) (clQ l1) (.agg #[.int .u32 (tkQ l1), .int .u32 (hsQ l1), .slice A5 n5 c5, .slice A6 n6 c6])])
          (fun j =>  none)
          [(0, some 35), (1, some 36), (2, some 37), (3, some 38), (4, none), (5, some 39), (6, none)]
          []
          (by kernel_rfl) (by kernel_rfl) (by kernel_rfl) (by kernel_rfl) (by kernel_rfl) ?z11_1c ?z11_1i ?z11_1b ?z11_1d ?z11_1g ⟨?z11_1t0, ?z11_1t1, ?z11_1t2, ?z11_1t3, ?z11_1t4, ?z11_1t5, ?z11_1t6, trivial⟩ ⟨?z11_1o0, ?z11_1o1, ?z11_1o2, ?z11_1o3, ?z11_1o4, ?z11_1o5, ?z11_1o6, trivial⟩ ?z11_1e
        case z11_1c => exact ⟨_, H4.out.drew⟩
        case z11_1i => exact H4.out.drew
        case z11_1b => intro w w' hb h; obtain ⟨o, h⟩ := h; exact ⟨o, h.call hb⟩
        case z11_1d =>
          intro t rs w w' hb h
          match t, h with
          | 0, h => (replace h : Hp B w00 w [(g6, .cells #[.int .u32 (tkQ l1), .int .u32 (hsQ l1), .slice A5 n5 c5, .slice A6 n6 c6] 26 (0, 0)), (g5, .cells #[.int .u8 5, .int .u32 0, .int .u32 0, .int .u32 0, .int .u32 0, .slice none 0 0, .slice none 0 0] 28 (0, 0)), (B, .cells #[.int .u8 0, .int .u32 0, .int .u32 0, .int .u32 0, .int .u32 0, .slice none 0 0, .slice none 0 0] 28 (0, 0))] [fun X => OfR B X (tkQ l1) (hsQ l1) (plQ l1) (clQ l1) (.agg #[.int .u32 (tkQ l1), .int .u32 (hsQ l1), .slice A5 n5 c5, .slice A6 n6 c6])] := h); show Hp B w00 w' [(g6, .cells #[.int .u32 (tkQ l1), .int .u32 (hsQ l1), .slice A5 n5 c5, .slice A6 n6 c6] 26 (0, 0)), (g5, .cells #[.int .u8 5, .int .u32 0, .int .u32 0, .int .u32 0, .int .u32 0, .slice none 0 0, .slice none 0 0] 28 (0, 0)), (B, .cells #[.int .u8 0, .int .u32 0, .int .u32 0, .int .u32 0, .int .u32 0, .slice none 0 0, .slice none 0 0] 28 (0, 0))] [fun X => OfR B X (tkQ l1) (hsQ l1) (plQ l1) (clQ l1) (.agg #[.int .u32 (tkQ l1), .int .u32 (hsQ l1), .slice A5 n5 c5, .slice A6 n6 c6])]; exact Hp.call h hb
          | 1, h => (replace h : Hp B w00 w [(g6, .cells #[.int .u32 (tkQ l1), .int .u32 (hsQ l1), .slice A5 n5 c5, .slice A6 n6 c6] 26 (0, 0)), (g5, .cells #[.int .u8 5, .int .u32 0, .int .u32 0, .int .u32 (tkQ l1), .int .u32 (hsQ l1), .slice A5 n5 c5, .slice A6 n6 c6] 28 (0, 0)), (B, .cells #[.int .u8 0, .int .u32 0, .int .u32 0, .int .u32 0, .int .u32 0, .slice none 0 0, .slice none 0 0] 28 (0, 0))] [fun X => OfR B X (tkQ l1) (hsQ l1) (plQ l1) (clQ l1) (.agg #[.int .u32 (tkQ l1), .int .u32 (hsQ l1), .slice A5 n5 c5, .slice A6 n6 c6])] := h); show Hp B w00 w' [(g6, .cells #[.int .u32 (tkQ l1), .int .u32 (hsQ l1), .slice A5 n5 c5, .slice A6 n6 c6] 26 (0, 0)), (g5, .cells #[.int .u8 5, .int .u32 0, .int .u32 0, .int .u32 (tkQ l1), .int .u32 (hsQ l1), .slice A5 n5 c5, .slice A6 n6 c6] 28 (0, 0)), (B, .cells #[.int .u8 0, .int .u32 0, .int .u32 0, .int .u32 0, .int .u32 0, .slice none 0 0, .slice none 0 0] 28 (0, 0))] [fun X => OfR B X (tkQ l1) (hsQ l1) (plQ l1) (clQ l1) (.agg #[.int .u32 (tkQ l1), .int .u32 (hsQ l1), .slice A5 n5 c5, .slice A6 n6 c6])]; exact Hp.call h hb
          | 2, h => (replace h : Hp B w00 w [(g6, .cells #[.int .u32 (tkQ l1), .int .u32 (hsQ l1), .slice A5 n5 c5, .slice A6 n6 c6] 26 (0, 0)), (g5, .cells #[.int .u8 5, .int .u32 (tkQ l1), .int .u32 0, .int .u32 (tkQ l1), .int .u32 (hsQ l1), .slice A5 n5 c5, .slice A6 n6 c6] 28 (0, 0)), (B, .cells #[.int .u8 0, .int .u32 0, .int .u32 0, .int .u32 0, .int .u32 0, .slice none 0 0, .slice none 0 0] 28 (0, 0))] [fun X => OfR B X (tkQ l1) (hsQ l1) (plQ l1) (clQ l1) (.agg #[.int .u32 (tkQ l1), .int .u32 (hsQ l1), .slice A5 n5 c5, .slice A6 n6 c6])] := h); show Hp B w00 w' [(g6, .cells #[.int .u32 (tkQ l1), .int .u32 (hsQ l1), .slice A5 n5 c5, .slice A6 n6 c6] 26 (0, 0)), (g5, .cells #[.int .u8 5, .int .u32 (tkQ l1), .int .u32 0, .int .u32 (tkQ l1), .int .u32 (hsQ l1), .slice A5 n5 c5, .slice A6 n6 c6] 28 (0, 0)), (B, .cells #[.int .u8 0, .int .u32 0, .int .u32 0, .int .u32 0, .int .u32 0, .slice none 0 0, .slice none 0 0] 28 (0, 0))] [fun X => OfR B X (tkQ l1) (hsQ l1) (plQ l1) (clQ l1) (.agg #[.int .u32 (tkQ l1), .int .u32 (hsQ l1), .slice A5 n5 c5, .slice A6 n6 c6])]; exact Hp.call h hb
          | _ + 3, h => exact h.elim
        case z11_1g =>
          intro j hj; cases hj
        case z11_1t0 => exact StabS.const _ _ _ _
        case z11_1t1 => exact StabS.const _ _ _ _
        case z11_1t2 => exact StabS.const _ _ _ _
        case z11_1t3 => exact StabS.const _ _ _ _
        case z11_1t4 => exact StabS.const _ _ _ _
        case z11_1t5 => exact StabS.const _ _ _ _
        case z11_1t6 => exact StabS.const _ _ _ _
        case z11_1o0 =>
          intro vs w t hC ht1 ht2 hS hV
          rw [if_pos (by kernel_rfl)]
          generalize hρ : rho _ _ _ vs = ρ
          have e6 : ρ (.tmp 6) = .pointer (some ⟨g6, 0, none⟩) := by rw [← hρ]; kernel_rfl
          clear hρ hV
          obtain ⟨o, hH⟩ := hC
          have c0 := blk_cell (hH.get (i := 0) rfl) 0
          have c1 := blk_cell (hH.get (i := 0) rfl) 1
          have c2 := blk_cell (hH.get (i := 0) rfl) 2
          have c3 := blk_cell (hH.get (i := 0) rfl) 3
          refine runs_val (v := .agg #[.int .u32 (tkQ l1), .int .u32 (hsQ l1), .slice A5 n5 c5, .slice A6 n6 c6]) (w' := w) ?_ ⟨Below.refl _ _, rfl⟩
          clear ht1 ht2 hS hH
          go_simp
        case z11_1o1 =>
          intro vs w t hC ht1 ht2 hS hV
          rw [if_pos (by kernel_rfl)]
          generalize hρ : rho _ _ _ vs = ρ
          have e6 : ρ (.tmp 6) = .pointer (some ⟨g6, 0, none⟩) := by rw [← hρ]; kernel_rfl
          clear hρ hV
          refine runs_val (v := .pointer (some ⟨g6, 0, none⟩)) (w' := w) ?_ ⟨Below.refl _ _, rfl⟩
          clear ht1 ht2 hS hC
          go_simp <;> (first | exact IntWalk.u64_in _ (by omega) | exact IntWalk.u32_in _ (by omega) | exact IntWalk.u16_in _ (by omega) | exact IntWalk.u8_in _ (by omega) | exact IntWalk.i64_in _ (by omega) | skip)
        case z11_1o2 =>
          intro vs w t hC ht1 ht2 hS hV
          rw [if_pos (by kernel_rfl)]
          generalize hρ : rho _ _ _ vs = ρ
          have d36 : (vs 1) = .pointer (some ⟨g6, 0, none⟩) := hV 1 (by kernel_rfl)
          have e36 : ρ (.tmp 36) = vs 1 := by rw [← hρ]; kernel_rfl
          rw [d36] at e36; clear d36
          clear hρ hV
          obtain ⟨o, hH⟩ := hC
          have c0 := blk_cell (hH.get (i := 0) rfl) 0
          refine runs_val (v := .int .u32 (tkQ l1)) (w' := w) ?_ ⟨Below.refl _ _, rfl⟩
          clear ht1 ht2 hS hH
          go_simp
        case z11_1o3 =>
          intro vs w t hC ht1 ht2 hS hV
          rw [if_pos (by kernel_rfl)]
          generalize hρ : rho _ _ _ vs = ρ
          have e5 : ρ (.tmp 5) = .pointer (some ⟨g5, 0, none⟩) := by rw [← hρ]; kernel_rfl
          clear hρ hV
          refine runs_val (v := .pointer (some ⟨g5, 3, none⟩)) (w' := w) ?_ ⟨Below.refl _ _, rfl⟩
          clear ht1 ht2 hS hC
          go_simp <;> (first | exact IntWalk.u64_in _ (by omega) | exact IntWalk.u32_in _ (by omega) | exact IntWalk.u16_in _ (by omega) | exact IntWalk.u8_in _ (by omega) | exact IntWalk.i64_in _ (by omega) | skip)
        case z11_1o4 =>
          intro vs w hC hS hV
          replace hS : Hp B w00 w [(g6, .cells #[.int .u32 (tkQ l1), .int .u32 (hsQ l1), .slice A5 n5 c5, .slice A6 n6 c6] 26 (0, 0)), (g5, .cells #[.int .u8 5, .int .u32 0, .int .u32 0, .int .u32 0, .int .u32 0, .slice none 0 0, .slice none 0 0] 28 (0, 0)), (B, .cells #[.int .u8 0, .int .u32 0, .int .u32 0, .int .u32 0, .int .u32 0, .slice none 0 0, .slice none 0 0] 28 (0, 0))] [fun X => OfR B X (tkQ l1) (hsQ l1) (plQ l1) (clQ l1) (.agg #[.int .u32 (tkQ l1), .int .u32 (hsQ l1), .slice A5 n5 c5, .slice A6 n6 c6])] := hS
          rw [if_pos (by kernel_rfl)]
          generalize hρ : rho _ _ _ vs = ρ
          have d38 : (vs 3) = .pointer (some ⟨g5, 3, none⟩) := hV 3 (by kernel_rfl)
          have e38 : ρ (.tmp 38) = vs 3 := by rw [← hρ]; kernel_rfl
          rw [d38] at e38; clear d38
          have d35 : (vs 0) = .agg #[.int .u32 (tkQ l1), .int .u32 (hsQ l1), .slice A5 n5 c5, .slice A6 n6 c6] := hV 0 (by kernel_rfl)
          have e35 : ρ (.tmp 35) = vs 0 := by rw [← hρ]; kernel_rfl
          rw [d35] at e35; clear d35
          clear hρ hV
          have c3 := blk_cell (hS.get (i := 1) rfl) 3
          have c4 := blk_cell (hS.get (i := 1) rfl) 4
          have c5' := blk_cell (hS.get (i := 1) rfl) 5
          have c6' := blk_cell (hS.get (i := 1) rfl) 6
          have f3 := blk_frozen (hS.get (i := 1) rfl) 3
          have f4 := blk_frozen (hS.get (i := 1) rfl) 4
          have f5 := blk_frozen (hS.get (i := 1) rfl) 5
          have f6 := blk_frozen (hS.get (i := 1) rfl) 6
          have hH := (((hS.setCell (i := 1) rfl 3 (.int .u32 (tkQ l1))).setCell (i := 1) rfl 4 (.int .u32 (hsQ l1))).setCell (i := 1) rfl 5 (.slice A5 n5 c5)).setCell (i := 1) rfl 6 (.slice A6 n6 c6)
          refine runs_skip (w' := (((w.setCell ⟨g5, 3, none⟩ (.int .u32 (tkQ l1))).setCell ⟨g5, 4, none⟩ (.int .u32 (hsQ l1))).setCell ⟨g5, 5, none⟩ (.slice A5 n5 c5)).setCell ⟨g5, 6, none⟩ (.slice A6 n6 c6)) ?_ ⟨⟨_, hH⟩, trivial, trivial, hH⟩
          clear hS hC hH
          go_simp
        case z11_1o5 =>
          intro vs w t hC ht1 ht2 hS hV
          rw [if_pos (by kernel_rfl)]
          generalize hρ : rho _ _ _ vs = ρ
          have e5 : ρ (.tmp 5) = .pointer (some ⟨g5, 0, none⟩) := by rw [← hρ]; kernel_rfl
          clear hρ hV
          refine runs_val (v := .pointer (some ⟨g5, 1, none⟩)) (w' := w) ?_ ⟨Below.refl _ _, rfl⟩
          clear ht1 ht2 hS hC
          go_simp <;> (first | exact IntWalk.u64_in _ (by omega) | exact IntWalk.u32_in _ (by omega) | exact IntWalk.u16_in _ (by omega) | exact IntWalk.u8_in _ (by omega) | exact IntWalk.i64_in _ (by omega) | skip)
        case z11_1o6 =>
          intro vs w hC hS hV
          replace hS : Hp B w00 w [(g6, .cells #[.int .u32 (tkQ l1), .int .u32 (hsQ l1), .slice A5 n5 c5, .slice A6 n6 c6] 26 (0, 0)), (g5, .cells #[.int .u8 5, .int .u32 0, .int .u32 0, .int .u32 (tkQ l1), .int .u32 (hsQ l1), .slice A5 n5 c5, .slice A6 n6 c6] 28 (0, 0)), (B, .cells #[.int .u8 0, .int .u32 0, .int .u32 0, .int .u32 0, .int .u32 0, .slice none 0 0, .slice none 0 0] 28 (0, 0))] [fun X => OfR B X (tkQ l1) (hsQ l1) (plQ l1) (clQ l1) (.agg #[.int .u32 (tkQ l1), .int .u32 (hsQ l1), .slice A5 n5 c5, .slice A6 n6 c6])] := hS
          rw [if_pos (by kernel_rfl)]
          generalize hρ : rho _ _ _ vs = ρ
          have d39 : (vs 5) = .pointer (some ⟨g5, 1, none⟩) := hV 5 (by kernel_rfl)
          have e39 : ρ (.tmp 39) = vs 5 := by rw [← hρ]; kernel_rfl
          rw [d39] at e39; clear d39
          have d37 : (vs 2) = .int .u32 (tkQ l1) := hV 2 (by kernel_rfl)
          have e37 : ρ (.tmp 37) = vs 2 := by rw [← hρ]; kernel_rfl
          rw [d37] at e37; clear d37
          clear hρ hV
          have c1 := blk_cell (hS.get (i := 1) rfl) 1
          have f1 := blk_frozen (hS.get (i := 1) rfl) 1
          have hH := hS.setCell (i := 1) rfl 1 (.int .u32 (tkQ l1))
          refine runs_skip (w' := w.setCell ⟨g5, 1, none⟩ (.int .u32 (tkQ l1))) ?_ ⟨⟨_, hH⟩, trivial, trivial, hH⟩
          clear hS hC hH
          go_simp
        case z11_1e =>
          intro vs W7 hC hS hV
          replace hS : (fun (w : World) => Hp B w00 w [(g6, .cells #[.int .u32 (tkQ l1), .int .u32 (hsQ l1), .slice A5 n5 c5, .slice A6 n6 c6] 26 (0, 0)), (g5, .cells #[.int .u8 5, .int .u32 (tkQ l1), .int .u32 0, .int .u32 (tkQ l1), .int .u32 (hsQ l1), .slice A5 n5 c5, .slice A6 n6 c6] 28 (0, 0)), (B, .cells #[.int .u8 0, .int .u32 0, .int .u32 0, .int .u32 0, .int .u32 0, .slice none 0 0, .slice none 0 0] 28 (0, 0))] [fun X => OfR B X (tkQ l1) (hsQ l1) (plQ l1) (clQ l1) (.agg #[.int .u32 (tkQ l1), .int .u32 (hsQ l1), .slice A5 n5 c5, .slice A6 n6 c6])]) W7 := hS
          have d35 : (vs 0) = .agg #[.int .u32 (tkQ l1), .int .u32 (hsQ l1), .slice A5 n5 c5, .slice A6 n6 c6] := hV 0 (Nat.le_of_ble_eq_true rfl)
          have d36 : (vs 1) = .pointer (some ⟨g6, 0, none⟩) := hV 1 (Nat.le_of_ble_eq_true rfl)
          have d37 : (vs 2) = .int .u32 (tkQ l1) := hV 2 (Nat.le_of_ble_eq_true rfl)
          have d38 : (vs 3) = .pointer (some ⟨g5, 3, none⟩) := hV 3 (Nat.le_of_ble_eq_true rfl)
          have d39 : (vs 5) = .pointer (some ⟨g5, 1, none⟩) := hV 5 (Nat.le_of_ble_eq_true rfl)
          clear hV
          simp only [putAll]
          rw [d35, d36, d37, d38, d39]
          clear d35 d36 d37 d38 d39
          generalize vs 4 = vN4
          generalize vs 6 = vN6
          clear vs
          simp only [Act.put, List.setIfInBounds_toArray, List.set_cons_zero, List.set_cons_succ]
          have H7 := Aside0.mk hS
          clear hS hC
          go_wp2_with (first | (refine wpList_load_row_g 28 (.tmp 5) rfl g5 rfl rfl 28 _ (0, 0) _ (H7.out.get (i := 1) rfl) Try.underlying28 rfl (msg_info _ _ _ _ _ _ _) ?_) | (refine wpList_store_row rfl 28 (.tmp 2) (.tmp 40) rfl B #[.int .u8 5, .int .u32 (tkQ l1), .int .u32 0, .int .u32 (tkQ l1), .int .u32 (hsQ l1), .slice A5 n5 c5, .slice A6 n6 c6] rfl rfl 28 _ (H7.out.get (i := 2) rfl) (msg_info _ _ _ _ _ _ _) rfl (by simp [Value.oneCell']) ?_))
          have H9 := Aside0.mk (H7.out.setRow (i := 2) rfl #[.int .u8 5, .int .u32 (tkQ l1), .int .u32 0, .int .u32 (tkQ l1), .int .u32 (hsQ l1), .slice A5 n5 c5, .slice A6 n6 c6])
          have HRQ : Aside0 (readR q = ⟨true, 5, tkQ l1, 0, tkQ l1, hsQ l1, plQ l1, clQ l1⟩) := ⟨by rw [HQ2.out.1, readR_five _ (by decide) (by decide), if_pos HBE.out]⟩
          refine bodyPost_ret (results_ct rfl _ _ B _ #[.int .u8 5, .int .u32 (tkQ l1), .int .u32 0, .int .u32 (tkQ l1), .int .u32 (hsQ l1), .slice A5 n5 c5, .slice A6 n6 c6] (0, 0) _ rfl (H9.out.get (i := 2) rfl) Try.underlying28 rfl (msg_info _ _ _ _ _ _ _)) rfl ?_
          exact ⟨ReadM.of HRQ.out (OfR.msg (H9.out.fact (i := 0) rfl)), H9.out.bel⟩
    · skip
      by_cases x6 : x = 6
      · subst x6
        have HQ2 : Aside0 (q = 6 :: l1 ∧ b1 = false) := ⟨by rcases HQ.out with h | h; exact absurd h.2.1 (by decide); exact h⟩
        have hq1 : n = l1.length + 1 := by have := HN.out.2.2; rw [HQ2.out.1] at this; simpa using this.symm
        obtain ⟨A9, z1, z2, _⟩ := eye_lo (P := Try.prog) .u8 .i64 23 5 1 Try.underlying23 np_info A n c 1 (by omega) HN.out.2.1
        have hn1 : (1 : Int) ≤ n := by omega
        clear hq1
        have Z1 : Aside0 (∀ W : World, (Instr.slice 23 (.slice A n c) (some (.int .i64 1)) none none).run Try.prog W = .ok (.slice A9 (n - 1) (c - 1)) W) := ⟨fun W => z1 W⟩
        have Z2 : Aside0 (∀ z, Below B w00 z → (Kd.int .u8).C z A9 (n - 1) l1) := ⟨fun z hz => by have := z2 z q (HF.out z hz); rw [HQ2.out.1] at this; exact this⟩
        clear z1 z2
        have z1 := Z1.out
        go_wp2_with fail
        generalize w2.alloc (.cells #[.int .u8 6, .int .u32 0, .int .u32 0, .int .u32 0, .int .u32 0, .slice none 0 0, .slice none 0 0] 28) = W3 at *
        clear z1 Z1 hg5
        refine (parse_any A9 (n - 1) (c - 1) l1 W3 (Z2.out _ H3.out.bel) (by have := HN.out.1; omega) HBL1.out).mono ?_
        rintro e w4 ⟨hp4, hb4⟩
        obtain ⟨A5, n5, c5, A6, n6, c6, rfl, hD4⟩ := parse_formR hp4
        obtain ⟨g6, hg6⟩ : ∃ g6, w4.heap.size = g6 := ⟨_, rfl⟩
        have H4 := Aside0.mk ((H3.out.ofR hb4 hD4).allocAt (.cells #[.int .u32 (tkQ l1), .int .u32 (hsQ l1), .slice A5 n5 c5, .slice A6 n6 c6] 26) g6 hg6)
        clear hp4 hb4 hD4 H3 HE3
        obtain ⟨β, hβ⟩ : ∃ β, okD l1 = β := ⟨_, rfl⟩
        have HEC : ecD l1 = if β = true then 0 else 2 := by unfold ecD; rw [hβ]
        have HBE := Aside0.mk hβ
        clear hβ
        cases β with
        | false =>
          rw [if_neg (by decide)] at HEC
          rw [HEC]
          clear HEC
          go_wp2_with (first | (refine wpList_store_row rfl 28 (.tmp 2) (.tmp 34) rfl B #[.int .u8 0, .int .u32 0, .int .u32 0, .int .u32 0, .int .u32 0, .slice none 0 0, .slice none 0 0] rfl rfl 28 _ (H4.out.get (i := 2) rfl) (msg_info _ _ _ _ _ _ _) rfl (by simp [Value.oneCell']) ?_))
          have H9 := Aside0.mk (H4.out.setRow (i := 2) rfl #[.int .u8 0, .int .u32 0, .int .u32 0, .int .u32 0, .int .u32 0, .slice none 0 0, .slice none 0 0])
          have HRQ : Aside0 (readR q = badR) := ⟨by rw [HQ2.out.1, readR_five _ (by decide) (by decide), if_neg (by rw [HBE.out]; decide)]⟩
          refine bodyPost_ret (results_ct rfl _ _ B _ #[.int .u8 0, .int .u32 0, .int .u32 0, .int .u32 0, .int .u32 0, .slice none 0 0, .slice none 0 0] (0, 0) _ rfl (H9.out.get (i := 2) rfl) Try.underlying28 rfl (msg_info _ _ _ _ _ _ _)) rfl ?_
          exact ⟨ReadM.of HRQ.out (MsC_zero _ 0 0 0), H9.out.bel⟩
        | true =>
          rw [if_pos rfl] at HEC
          rw [HEC]
          clear HEC
          go_wp2_with fail
          generalize hW5 : w4.alloc (.cells #[.int .u32 (tkQ l1), .int .u32 (hsQ l1), .slice A5 n5 c5, .slice A6 n6 c6] 26) = W5 at *
          clear hW5 hg6
          refine regionS (W := W5)
            [fun _ v => v = .agg #[.int .u32 (tkQ l1), .int .u32 (hsQ l1), .slice A5 n5 c5, .slice A6 n6 c6],
             fun _ v => v = .pointer (some ⟨g6, 0, none⟩),
             fun _ v => v = .int .u32 (tkQ l1),
             fun _ v => v = .pointer (some ⟨g5, 3, none⟩),
             fun _ _ => True,
             fun _ v => v = .pointer (some ⟨g5, 1, none⟩),
             fun _ _ => True]
            [4, 6]
            (fun t => match t with | 0 => fun (rs : List Value) (w : World) => Hp B w00 w [(g6, .cells #[.int .u32 (tkQ l1), .int .u32 (hsQ l1), .slice A5 n5 c5, .slice A6 n6 c6] 26 (0, 0)), (g5, .cells #[.int .u8 6, .int .u32 0, .int .u32 0, .int .u32 0, .int .u32 0, .slice none 0 0, .slice none 0 0] 28 (0, 0)), (B, .cells #[.int .u8 0, .int .u32 0, .int .u32 0, .int .u32 0, .int .u32 0, .slice none 0 0, .slice none 0 0] 28 (0, 0))] [fun X => OfR B X (tkQ l1) (hsQ l1) (plQ l1) (clQ l1) (.agg #[.int .u32 (tkQ l1), .int .u32 (hsQ l1), .slice A5 n5 c5, .slice A6 n6 c6])] | 1 => fun (rs : List Value) (w : World) => Hp B w00 w [(g6, .cells #[.int .u32 (tkQ l1), .int .u32 (hsQ l1), .slice A5 n5 c5, .slice A6 n6 c6] 26 (0, 0)), (g5, .cells #[.int .u8 6, .int .u32 0, .int .u32 0, .int .u32 (tkQ l1), .int .u32 (hsQ l1), .slice A5 n5 c5, .slice A6 n6 c6] 28 (0, 0)), (B, .cells #[.int .u8 0, .int .u32 0, .int .u32 0, .int .u32 0, .int .u32 0, .slice none 0 0, .slice none 0 0] 28 (0, 0))] [fun X => OfR B X (tkQ l1) (hsQ l1) (plQ l1) (clQ l1) (.agg #[.int .u32 (tkQ l1), .int .u32 (hsQ l1), .slice A5 n5 c5, .slice A6 n6 c6])] | 2 => fun (rs : List Value) (w : World) => Hp B w00 w [(g6, .cells #[.int .u32 (tkQ l1), .int .u32 (hsQ l1), .slice A5 n5 c5, .slice A6 n6 c6] 26 (0, 0)), (g5, .cells #[.int .u8 6, .int .u32 (tkQ l1), .int .u32 0, .int .u32 (tkQ l1), .int .u32 (hsQ l1), .slice A5 n5 c5, .slice A6 n6 c6] 28 (0, 0)), (B, .cells #[.int .u8 0, .int .u32 0, .int .u32 0, .int .u32 0, .int .u32 0, .slice none 0 0, .slice none 0 0] 28 (0, 0))] [fun X => OfR B X (tkQ l1) (hsQ l1) (plQ l1) (clQ l1) (.agg #[.int .u32 (tkQ l1), .int .u32 (hsQ l1), .slice A5 n5 c5, .slice A6 n6 c6])] | _ => fun _ _ => False)
            (fun _ _ _ => True) (fun w => ∃ o, Hp B w00 w [(g6, .cells #[.int .u32 (tkQ l1), .int .u32 (hsQ l1), .slice A5 n5 c5, .slice A6 n6 c6] 26 (0, 0)), (g5, o), (B, .cells #[.int .u8 0, .int .u32 0, .int .u32 0, .int .u32 0, .int .u32 0, .slice none 0 0, .slice none 0 0] 28 (0, 0))] [fun X => OfR B X (tkQ l1) (hsQ l1) (plQ l1) (clQ l1) (.agg #[.int .u32 (tkQ l1), .int .u32 (hsQ l1), .slice A5 n5 c5, .slice A6 n6 c6])])
            (fun j =>  none)
            [(0, some 35), (1, some 36), (2, some 37), (3, some 38), (4, none), (5, some 39), (6, none)]
            []
            (by kernel_rfl) (by kernel_rfl) (by kernel_rfl) (by kernel_rfl) (by kernel_rfl) ?z11_2c ?z11_2i ?z11_2b ?z11_2d ?z11_2g ⟨?z11_2t0, ?z11_2t1, ?z11_2t2, ?z11_2t3, ?z11_2t4, ?z11_2t5, ?z11_2t6, trivial⟩ ⟨?z11_2o0, ?z11_2o1, ?z11_2o2, ?z11_2o3, ?z11_2o4, ?z11_2o5, ?z11_2o6, trivial⟩ ?z11_2e
          case z11_2c => exact ⟨_, H4.out.drew⟩
          case z11_2i => exact H4.out.drew
          case z11_2b => intro w w' hb h; obtain ⟨o, h⟩ := h; exact ⟨o, h.call hb⟩
          case z11_2d =>
            intro t rs w w' hb h
            match t, h with
            | 0, h => (replace h : Hp B w00 w [(g6, .cells #[.int .u32 (tkQ l1), .int .u32 (hsQ l1), .slice A5 n5 c5, .slice A6 n6 c6] 26 (0, 0)), (g5, .cells #[.int .u8 6, .int .u32 0, .int .u32 0, .int .u32 0, .int .u32 0, .slice none 0 0, .slice none 0 0] 28 (0, 0)), (B, .cells #[.int .u8 0, .int .u32 0, .int .u32 0, .int .u32 0, .int .u32 0, .slice none 0 0, .slice none 0 0] 28 (0, 0))] [fun X => OfR B X (tkQ l1) (hsQ l1) (plQ l1) (clQ l1) (.agg #[.int .u32 (tkQ l1), .int .u32 (hsQ l1), .slice A5 n5 c5, .slice A6 n6 c6])] := h); show Hp B w00 w' [(g6, .cells #[.int .u32 (tkQ l1), .int .u32 (hsQ l1), .slice A5 n5 c5, .slice A6 n6 c6] 26 (0, 0)), (g5, .cells #[.int .u8 6, .int .u32 0, .int .u32 0, .int .u32 0, .int .u32 0, .slice none 0 0, .slice none 0 0] 28 (0, 0)), (B, .cells #[.int .u8 0, .int .u32 0, .int .u32 0, .int .u32 0, .int .u32 0, .slice none 0 0, .slice none 0 0] 28 (0, 0))] [fun X => OfR B X (tkQ l1) (hsQ l1) (plQ l1) (clQ l1) (.agg #[.int .u32 (tkQ l1), .int .u32 (hsQ l1), .slice A5 n5 c5, .slice A6 n6 c6])]; exact Hp.call h hb
            | 1, h => (replace h : Hp B w00 w [(g6, .cells #[.int .u32 (tkQ l1), .int .u32 (hsQ l1), .slice A5 n5 c5, .slice A6 n6 c6] 26 (0, 0)), (g5, .cells #[.int .u8 6, .int .u32 0, .int .u32 0, .int .u32 (tkQ l1), .int .u32 (hsQ l1), .slice A5 n5 c5, .slice A6 n6 c6] 28 (0, 0)), (B, .cells #[.int .u8 0, .int .u32 0, .int .u32 0, .int .u32 0, .int .u32 0, .slice none 0 0, .slice none 0 0] 28 (0, 0))] [fun X => OfR B X (tkQ l1) (hsQ l1) (plQ l1) (clQ l1) (.agg #[.int .u32 (tkQ l1), .int .u32 (hsQ l1), .slice A5 n5 c5, .slice A6 n6 c6])] := h); show Hp B w00 w' [(g6, .cells #[.int .u32 (tkQ l1), .int .u32 (hsQ l1), .slice A5 n5 c5, .slice A6 n6 c6] 26 (0, 0)), (g5, .cells #[.int .u8 6, .int .u32 0, .int .u32 0, .int .u32 (tkQ l1), .int .u32 (hsQ l1), .slice A5 n5 c5, .slice A6 n6 c6] 28 (0, 0)), (B, .cells #[.int .u8 0, .int .u32 0, .int .u32 0, .int .u32 0, .int .u32 0, .slice none 0 0, .slice none 0 0] 28 (0, 0))] [fun X => OfR B X (tkQ l1) (hsQ l1) (plQ l1) (clQ l1) (.agg #[.int .u32 (tkQ l1), .int .u32 (hsQ l1), .slice A5 n5 c5, .slice A6 n6 c6])]; exact Hp.call h hb
            | 2, h => (replace h : Hp B w00 w [(g6, .cells #[.int .u32 (tkQ l1), .int .u32 (hsQ l1), .slice A5 n5 c5, .slice A6 n6 c6] 26 (0, 0)), (g5, .cells #[.int .u8 6, .int .u32 (tkQ l1), .int .u32 0, .int .u32 (tkQ l1), .int .u32 (hsQ l1), .slice A5 n5 c5, .slice A6 n6 c6] 28 (0, 0)), (B, .cells #[.int .u8 0, .int .u32 0, .int .u32 0, .int .u32 0, .int .u32 0, .slice none 0 0, .slice none 0 0] 28 (0, 0))] [fun X => OfR B X (tkQ l1) (hsQ l1) (plQ l1) (clQ l1) (.agg #[.int .u32 (tkQ l1), .int .u32 (hsQ l1), .slice A5 n5 c5, .slice A6 n6 c6])] := h); show Hp B w00 w' [(g6, .cells #[.int .u32 (tkQ l1), .int .u32 (hsQ l1), .slice A5 n5 c5, .slice A6 n6 c6] 26 (0, 0)), (g5, .cells #[.int .u8 6, .int .u32 (tkQ l1), .int .u32 0, .int .u32 (tkQ l1), .int .u32 (hsQ l1), .slice A5 n5 c5, .slice A6 n6 c6] 28 (0, 0)), (B, .cells #[.int .u8 0, .int .u32 0, .int .u32 0, .int .u32 0, .int .u32 0, .slice none 0 0, .slice none 0 0] 28 (0, 0))] [fun X => OfR B X (tkQ l1) (hsQ l1) (plQ l1) (clQ l1) (.agg #[.int .u32 (tkQ l1), .int .u32 (hsQ l1), .slice A5 n5 c5, .slice A6 n6 c6])]; exact Hp.call h hb
            | _ + 3, h => exact h.elim
          case z11_2g =>
            intro j hj; cases hj
          case z11_2t0 => exact StabS.const _ _ _ _
          case z11_2t1 => exact StabS.const _ _ _ _
          case z11_2t2 => exact StabS.const _ _ _ _
          case z11_2t3 => exact StabS.const _ _ _ _
          case z11_2t4 => exact StabS.const _ _ _ _
          case z11_2t5 => exact StabS.const _ _ _ _
          case z11_2t6 => exact StabS.const _ _ _ _
          case z11_2o0 =>
            intro vs w t hC ht1 ht2 hS hV
            rw [if_pos (by kernel_rfl)]
            generalize hρ : rho _ _ _ vs = ρ
            have e6 : ρ (.tmp 6) = .pointer (some ⟨g6, 0, none⟩) := by rw [← hρ]; kernel_rfl
            clear hρ hV
            obtain ⟨o, hH⟩ := hC
            have c0 := blk_cell (hH.get (i := 0) rfl) 0
            have c1 := blk_cell (hH.get (i := 0) rfl) 1
            have c2 := blk_cell (hH.get (i := 0) rfl) 2
            have c3 := blk_cell (hH.get (i := 0) rfl) 3
            refine runs_val (v := .agg #[.int .u32 (tkQ l1), .int .u32 (hsQ l1), .slice A5 n5 c5, .slice A6 n6 c6]) (w' := w) ?_ ⟨Below.refl _ _, rfl⟩
            clear ht1 ht2 hS hH
            go_simp
          case z11_2o1 =>
            intro vs w t hC ht1 ht2 hS hV
            rw [if_pos (by kernel_rfl)]
            generalize hρ : rho _ _ _ vs = ρ
            have e6 : ρ (.tmp 6) = .pointer (some ⟨g6, 0, none⟩) := by rw [← hρ]; kernel_rfl
            clear hρ hV
            refine runs_val (v := .pointer (some ⟨g6, 0, none⟩)) (w' := w) ?_ ⟨Below.refl _ _, rfl⟩
            clear ht1 ht2 hS hC
            go_simp <;> (first | exact IntWalk.u64_in _ (by omega) | exact IntWalk.u32_in _ (by omega) | exact IntWalk.u16_in _ (by omega) | exact IntWalk.u8_in _ (by omega) | exact IntWalk.i64_in _ (by omega) | skip)
          case z11_2o2 =>
            intro vs w t hC ht1 ht2 hS hV
            rw [if_pos (by kernel_rfl)]
            generalize hρ : rho _ _ _ vs = ρ
            have d36 : (vs 1) = .pointer (some ⟨g6, 0, none⟩) := hV 1 (by kernel_rfl)
            have e36 : ρ (.tmp 36) = vs 1 := by rw [← hρ]; kernel_rfl
            rw [d36] at e36; clear d36
            clear hρ hV
            obtain ⟨o, hH⟩ := hC
            have c0 := blk_cell (hH.get (i := 0) rfl) 0
            refine runs_val (v := .int .u32 (tkQ l1)) (w' := w) ?_ ⟨Below.refl _ _, rfl⟩
            clear ht1 ht2 hS hH
            go_simp
          case z11_2o3 =>
            intro vs w t hC ht1 ht2 hS hV
            rw [if_pos (by kernel_rfl)]
            generalize hρ : rho _ _ _ vs = ρ
            have e5 : ρ (.tmp 5) = .pointer (some ⟨g5, 0, none⟩) := by rw [← hρ]; kernel_rfl
            clear hρ hV
            refine runs_val (v := .pointer (some ⟨g5, 3, none⟩)) (w' := w) ?_ ⟨Below.refl _ _, rfl⟩
            clear ht1 ht2 hS hC
            go_simp <;> (first | exact IntWalk.u64_in _ (by omega) | exact IntWalk.u32_in _ (by omega) | exact IntWalk.u16_in _ (by omega) | exact IntWalk.u8_in _ (by omega) | exact IntWalk.i64_in _ (by omega) | skip)
          case z11_2o4 =>
            intro vs w hC hS hV
            replace hS : Hp B w00 w [(g6, .cells #[.int .u32 (tkQ l1), .int .u32 (hsQ l1), .slice A5 n5 c5, .slice A6 n6 c6] 26 (0, 0)), (g5, .cells #[.int .u8 6, .int .u32 0, .int .u32 0, .int .u32 0, .int .u32 0, .slice none 0 0, .slice none 0 0] 28 (0, 0)), (B, .cells #[.int .u8 0, .int .u32 0, .int .u32 0, .int .u32 0, .int .u32 0, .slice none 0 0, .slice none 0 0] 28 (0, 0))] [fun X => OfR B X (tkQ l1) (hsQ l1) (plQ l1) (clQ l1) (.agg #[.int .u32 (tkQ l1), .int .u32 (hsQ l1), .slice A5 n5 c5, .slice A6 n6 c6])] := hS
            rw [if_pos (by kernel_rfl)]
            generalize hρ : rho _ _ _ vs = ρ
            have d38 : (vs 3) = .pointer (some ⟨g5, 3, none⟩) := hV 3 (by kernel_rfl)
            have e38 : ρ (.tmp 38) = vs 3 := by rw [← hρ]; kernel_rfl
            rw [d38] at e38; clear d38
            have d35 : (vs 0) = .agg #[.int .u32 (tkQ l1), .int .u32 (hsQ l1), .slice A5 n5 c5, .slice A6 n6 c6] := hV 0 (by kernel_rfl)
            have e35 : ρ (.tmp 35) = vs 0 := by rw [← hρ]; kernel_rfl
            rw [d35] at e35; clear d35
            clear hρ hV
            have c3 := blk_cell (hS.get (i := 1) rfl) 3
            have c4 := blk_cell (hS.get (i := 1) rfl) 4
            have c5' := blk_cell (hS.get (i := 1) rfl) 5
            have c6' := blk_cell (hS.get (i := 1) rfl) 6
            have f3 := blk_frozen (hS.get (i := 1) rfl) 3
            have f4 := blk_frozen (hS.get (i := 1) rfl) 4
            have f5 := blk_frozen (hS.get (i := 1) rfl) 5
            have f6 := blk_frozen (hS.get (i := 1) rfl) 6
            have hH := (((hS.setCell (i := 1) rfl 3 (.int .u32 (tkQ l1))).setCell (i := 1) rfl 4 (.int .u32 (hsQ l1))).setCell (i := 1) rfl 5 (.slice A5 n5 c5)).setCell (i := 1) rfl 6 (.slice A6 n6 c6)
            refine runs_skip (w' := (((w.setCell ⟨g5, 3, none⟩ (.int .u32 (tkQ l1))).setCell ⟨g5, 4, none⟩ (.int .u32 (hsQ l1))).setCell ⟨g5, 5, none⟩ (.slice A5 n5 c5)).setCell ⟨g5, 6, none⟩ (.slice A6 n6 c6)) ?_ ⟨⟨_, hH⟩, trivial, trivial, hH⟩
            clear hS hC hH
            go_simp
          case z11_2o5 =>
            intro vs w t hC ht1 ht2 hS hV
            rw [if_pos (by kernel_rfl)]
            generalize hρ : rho _ _ _ vs = ρ
            have e5 : ρ (.tmp 5) = .pointer (some ⟨g5, 0, none⟩) := by rw [← hρ]; kernel_rfl
            clear hρ hV
            refine runs_val (v := .pointer (some ⟨g5, 1, none⟩)) (w' := w) ?_ ⟨Below.refl _ _, rfl⟩
            clear ht1 ht2 hS hC
            go_simp <;> (first | exact IntWalk.u64_in _ (by omega) | exact IntWalk.u32_in _ (by omega) | exact IntWalk.u16_in _ (by omega) | exact IntWalk.u8_in _ (by omega) | exact IntWalk.i64_in _ (by omega) | skip)
          case z11_2o6 =>
            intro vs w hC hS hV
            replace hS : Hp B w00 w [(g6, .cells #[.int .u32 (tkQ l1), .int .u32 (hsQ l1), .slice A5 n5 c5, .slice A6 n6 c6] 26 (0, 0)), (g5, .cells #[.int .u8 6, .int .u32 0, .int .u32 0, .int .u32 (tkQ l1), .int .u32 (hsQ l1), .slice A5 n5 c5, .slice A6 n6 c6] 28 (0, 0)), (B, .cells #[.int .u8 0, .int .u32 0, .int .u32 0, .int .u32 0, .int .u32 0, .slice none 0 0, .slice none 0 0] 28 (0, 0))] [fun X => OfR B X (tkQ l1) (hsQ l1) (plQ l1) (clQ l1) (.agg #[.int .u32 (tkQ l1), .int .u32 (hsQ l1), .slice A5 n5 c5, .slice A6 n6 c6])] := hS
            rw [if_pos (by kernel_rfl)]
            generalize hρ : rho _ _ _ vs = ρ
            have d39 : (vs 5) = .pointer (some ⟨g5, 1, none⟩) := hV 5 (by kernel_rfl)
            have e39 : ρ (.tmp 39) = vs 5 := by rw [← hρ]; kernel_rfl
            rw [d39] at e39; clear d39
            have d37 : (vs 2) = .int .u32 (tkQ l1) := hV 2 (by kernel_rfl)
            have e37 : ρ (.tmp 37) = vs 2 := by rw [← hρ]; kernel_rfl
            rw [d37] at e37; clear d37
            clear hρ hV
            have c1 := blk_cell (hS.get (i := 1) rfl) 1
            have f1 := blk_frozen (hS.get (i := 1) rfl) 1
            have hH := hS.setCell (i := 1) rfl 1 (.int .u32 (tkQ l1))
            refine runs_skip (w' := w.setCell ⟨g5, 1, none⟩ (.int .u32 (tkQ l1))) ?_ ⟨⟨_, hH⟩, trivial, trivial, hH⟩
            clear hS hC hH
            go_simp
          case z11_2e =>
            intro vs W7 hC hS hV
            replace hS : (fun (w : World) => Hp B w00 w [(g6, .cells #[.int .u32 (tkQ l1), .int .u32 (hsQ l1), .slice A5 n5 c5, .slice A6 n6 c6] 26 (0, 0)), (g5, .cells #[.int .u8 6, .int .u32 (tkQ l1), .int .u32 0, .int .u32 (tkQ l1), .int .u32 (hsQ l1), .slice A5 n5 c5, .slice A6 n6 c6] 28 (0, 0)), (B, .cells #[.int .u8 0, .int .u32 0, .int .u32 0, .int .u32 0, .int .u32 0, .slice none 0 0, .slice none 0 0] 28 (0, 0))] [fun X => OfR B X (tkQ l1) (hsQ l1) (plQ l1) (clQ l1) (.agg #[.int .u32 (tkQ l1), .int .u32 (hsQ l1), .slice A5 n5 c5, .slice A6 n6 c6])]) W7 := hS
            have d35 : (vs 0) = .agg #[.int .u32 (tkQ l1), .int .u32 (hsQ l1), .slice A5 n5 c5, .slice A6 n6 c6] := hV 0 (Nat.le_of_ble_eq_true rfl)
            have d36 : (vs 1) = .pointer (some ⟨g6, 0, none⟩) := hV 1 (Nat.le_of_ble_eq_true rfl)
            have d37 : (vs 2) = .int .u32 (tkQ l1) := hV 2 (Nat.le_of_ble_eq_true rfl)
            have d38 : (vs 3) = .pointer (some ⟨g5, 3, none⟩) := hV 3 (Nat.le_of_ble_eq_true rfl)
            have d39 : (vs 5) = .pointer (some ⟨g5, 1, none⟩) := hV 5 (Nat.le_of_ble_eq_true rfl)
            clear hV
            simp only [putAll]
            rw [d35, d36, d37, d38, d39]
            clear d35 d36 d37 d38 d39
            generalize vs 4 = vN4
            generalize vs 6 = vN6
            clear vs
            simp only [Act.put, List.setIfInBounds_toArray, List.set_cons_zero, List.set_cons_succ]
            have H7 := Aside0.mk hS
            clear hS hC
            go_wp2_with (first | (refine wpList_load_row_g 28 (.tmp 5) rfl g5 rfl rfl 28 _ (0, 0) _ (H7.out.get (i := 1) rfl) Try.underlying28 rfl (msg_info _ _ _ _ _ _ _) ?_) | (refine wpList_store_row rfl 28 (.tmp 2) (.tmp 40) rfl B #[.int .u8 6, .int .u32 (tkQ l1), .int .u32 0, .int .u32 (tkQ l1), .int .u32 (hsQ l1), .slice A5 n5 c5, .slice A6 n6 c6] rfl rfl 28 _ (H7.out.get (i := 2) rfl) (msg_info _ _ _ _ _ _ _) rfl (by simp [Value.oneCell']) ?_))
            have H9 := Aside0.mk (H7.out.setRow (i := 2) rfl #[.int .u8 6, .int .u32 (tkQ l1), .int .u32 0, .int .u32 (tkQ l1), .int .u32 (hsQ l1), .slice A5 n5 c5, .slice A6 n6 c6])
            have HRQ : Aside0 (readR q = ⟨true, 6, tkQ l1, 0, tkQ l1, hsQ l1, plQ l1, clQ l1⟩) := ⟨by rw [HQ2.out.1, readR_five _ (by decide) (by decide), if_pos HBE.out]⟩
            refine bodyPost_ret (results_ct rfl _ _ B _ #[.int .u8 6, .int .u32 (tkQ l1), .int .u32 0, .int .u32 (tkQ l1), .int .u32 (hsQ l1), .slice A5 n5 c5, .slice A6 n6 c6] (0, 0) _ rfl (H9.out.get (i := 2) rfl) Try.underlying28 rfl (msg_info _ _ _ _ _ _ _)) rfl ?_
            exact ⟨ReadM.of HRQ.out (OfR.msg (H9.out.fact (i := 0) rfl)), H9.out.bel⟩
      · skip
        have HRR : Aside0 (b1 = true ∨ 0 < l1.length → readR q = badR) := ⟨by
          rcases HQ.out with h | h
          · intro _; rw [h.1]; rfl
          · rw [h.1, h.2]
            intro hh
            have h0 : l1.length ≠ 0 := by rcases hh with hh | hh; cases hh; omega
            rw [readR_oth _ x2 (by omega), if_neg h0]; split <;> rfl⟩
        have HRS : Aside0 (¬ (b1 = true ∨ 0 < l1.length) → readR q = if x = 1 ∨ x = 3 ∨ x = 4 then ⟨true, x, 0, 0, 0, 0, [], []⟩ else badR) := ⟨by
          intro hh
          rcases HQ.out with h | h
          · exact absurd (.inl h.2.2.2) hh
          · rw [h.1]
            have h0 : l1.length = 0 := by have := fun e => hh (.inr e); omega
            rw [readR_oth _ x2 (by omega), if_pos h0]⟩
        go_wp2_with fail
        generalize w2.alloc (.cells #[.int .u8 x, .int .u32 0, .int .u32 0, .int .u32 0, .int .u32 0, .slice none 0 0, .slice none 0 0] 28) = W3 at *
        clear hg5
        refine (done_any ge BB l1 b1 W3 HE3.out).mono ?_
        rintro e w7 ⟨rfl, rfl⟩
        by_cases hd : b1 = true ∨ 0 < l1.length
        · rw [if_pos hd]
          have HDD := Aside0.mk (HRR.out hd)
          clear hd
          go_wp2_with (first | (refine wpList_store_row rfl 28 (.tmp 2) (.tmp 49) rfl B #[.int .u8 0, .int .u32 0, .int .u32 0, .int .u32 0, .int .u32 0, .slice none 0 0, .slice none 0 0] rfl rfl 28 _ (H3.out.get (i := 1) rfl) (msg_info _ _ _ _ _ _ _) rfl (by simp [Value.oneCell']) ?_))
          have H9 := Aside0.mk (H3.out.setRow (i := 1) rfl #[.int .u8 0, .int .u32 0, .int .u32 0, .int .u32 0, .int .u32 0, .slice none 0 0, .slice none 0 0])
          have HRQ : Aside0 (readR q = badR) := ⟨HDD.out⟩
          refine bodyPost_ret (results_ct rfl _ _ B _ #[.int .u8 0, .int .u32 0, .int .u32 0, .int .u32 0, .int .u32 0, .slice none 0 0, .slice none 0 0] (0, 0) _ rfl (H9.out.get (i := 1) rfl) Try.underlying28 rfl (msg_info _ _ _ _ _ _ _)) rfl ?_
          exact ⟨ReadM.of HRQ.out (MsC_zero _ 0 0 0), H9.out.bel⟩
        · rw [if_neg hd]
          have HDD := Aside0.mk (HRS.out hd)
          clear hd HRR HRS HQ
          go_wp2_with (first | (refine wpList_load_row_g 28 (.tmp 5) rfl g5 rfl rfl 28 _ (0, 0) _ (H3.out.get (i := 0) rfl) Try.underlying28 rfl (msg_info _ _ _ _ _ _ _) ?_))
          refine (mright_any x 0 0 0 0 [] [] _ _ (MsC_zero _ _ _ _) (OkM_zero HX.out (by omega) (by omega))).mono ?_
          rintro e w8 ⟨rfl, hb8⟩
          have H8 := Aside0.mk (H3.out.call hb8)
          clear hb8 H3 HE3
          by_cases h134 : x = 1 ∨ x = 3 ∨ x = 4
          · have HDE := HDD.out
            rw [if_pos h134] at HDE
            have HD2 := Aside0.mk HDE
            rw [show rightM x 0 0 0 0 [] [] = true by unfold rightM isZ; rw [if_pos h134]; simp]
            clear HDE HDD h134
            go_wp2_with (first | (refine wpList_load_row_g 28 (.tmp 5) rfl g5 rfl rfl 28 _ (0, 0) _ (H8.out.get (i := 0) rfl) Try.underlying28 rfl (msg_info _ _ _ _ _ _ _) ?_) | (refine wpList_store_row rfl 28 (.tmp 2) (.tmp 50) rfl B #[.int .u8 x, .int .u32 0, .int .u32 0, .int .u32 0, .int .u32 0, .slice none 0 0, .slice none 0 0] rfl rfl 28 _ (H8.out.get (i := 1) rfl) (msg_info _ _ _ _ _ _ _) rfl (by simp [Value.oneCell']) ?_))
            have H9 := Aside0.mk ((H8.out).setRow (i := 1) rfl #[.int .u8 x, .int .u32 0, .int .u32 0, .int .u32 0, .int .u32 0, .slice none 0 0, .slice none 0 0])
            have HRQ : Aside0 (readR q = ⟨true, x, 0, 0, 0, 0, [], []⟩) := ⟨HD2.out⟩
            refine bodyPost_ret (results_ct rfl _ _ B _ #[.int .u8 x, .int .u32 0, .int .u32 0, .int .u32 0, .int .u32 0, .slice none 0 0, .slice none 0 0] (0, 0) _ rfl (H9.out.get (i := 1) rfl) Try.underlying28 rfl (msg_info _ _ _ _ _ _ _)) rfl ?_
            exact ⟨ReadM.of HRQ.out (MsC_zero _ _ _ _), H9.out.bel⟩
          · have HDE := HDD.out
            rw [if_neg h134] at HDE
            have HD2 := Aside0.mk HDE
            rw [show rightM x 0 0 0 0 [] [] = false by unfold rightM; rw [if_neg h134, if_neg x2, if_neg (by omega)]]
            clear HDE HDD h134
            go_wp2_with (first | (refine wpList_store_row rfl 28 (.tmp 2) (.tmp 49) rfl B #[.int .u8 0, .int .u32 0, .int .u32 0, .int .u32 0, .int .u32 0, .slice none 0 0, .slice none 0 0] rfl rfl 28 _ (H8.out.get (i := 1) rfl) (msg_info _ _ _ _ _ _ _) rfl (by simp [Value.oneCell']) ?_))
            have H9 := Aside0.mk (H8.out.setRow (i := 1) rfl #[.int .u8 0, .int .u32 0, .int .u32 0, .int .u32 0, .int .u32 0, .slice none 0 0, .slice none 0 0])
            have HRQ : Aside0 (readR q = badR) := ⟨HD2.out⟩
            refine bodyPost_ret (results_ct rfl _ _ B _ #[.int .u8 0, .int .u32 0, .int .u32 0, .int .u32 0, .int .u32 0, .slice none 0 0, .slice none 0 0] (0, 0) _ rfl (H9.out.get (i := 1) rfl) Try.underlying28 rfl (msg_info _ _ _ _ _ _ _)) rfl ?_
            exact ⟨ReadM.of HRQ.out (MsC_zero _ 0 0 0), H9.out.bel⟩
end Go.Proofs.Yticpjidcgaaldaa

namespace Go.Proofs.Yticpjidcgaaldaa
open Go.RowKit Go.Proofs.YticpjidcgaaldaaW.PrintWords Go.Proofs.YticpjidcgaaldaaW.PrintLast Go.Proofs.YticpjidcgaaldaaW.PrintMore
set_option linter.unusedVariables false
set_option linter.unusedSimpArgs false

set_option maxRecDepth 100000 in
set_option maxHeartbeats 16000000 in
theorem mlike_any (k t m tk hs k' t' m' tk' hs' : Int) (P P' : List Int) (R R' : List S59) (v u : Value) (w00 : World) (hv : MsC w00 k t m tk hs P R v) (hu : MsC w00 k' t' m' tk' hs' P' R' u) (hP : Bytes P) (hP' : Bytes P') (hn : R.length ≤ 1000000) (hn' : R'.length ≤ 1000000) (β : Bool) (hβ : β = true ↔ k = k' ∧ t = t' ∧ m = m' ∧ tk = tk' ∧ hs = hs' ∧ P = P' ∧ R = R') :
    Calls Try.prog 20 #[v, u] w00 fun e w' => e = .returned (.bool β) ∧ Below w00.heap.size w00 w' := by
  obtain ⟨A, c, A2, c2, rfl, h2, h3, h4, h5⟩ := hv
  obtain ⟨A', c', A2', c2', rfl, k2, k3, k4, k5⟩ := hu
  have HBE := Aside0.mk hβ
  have HF : Aside0 (∀ z, Below w00.heap.size w00 z → DvC z tk hs P R (.agg #[.int .u32 tk, .int .u32 hs, .slice A P.length c, .slice A2 R.length c2]) ∧ DvC z tk' hs' P' R' (.agg #[.int .u32 tk', .int .u32 hs', .slice A' P'.length c', .slice A2' R'.length c2'])) := ⟨fun z hb => ⟨⟨A, c, A2, c2, rfl, h2, h3, Kd.C_below h4 hb, Kd.C_below h5 hb⟩, ⟨A', c', A2', c2', rfl, k2, k3, Kd.C_below k4 hb, Kd.C_below k5 hb⟩⟩⟩
  have KD := Aside0.mk (fun (γ : Bool) (hγ : γ = true ↔ tk = tk' ∧ hs = hs' ∧ P = P' ∧ R = R') (z : World) (hz : Below w00.heap.size w00 z) => dsameG_any tk hs tk' hs' P P' R R' _ _ z (HF.out z hz).1 (HF.out z hz).2 hP hP' hn hn' γ hγ)
  have H0 := Aside0.mk (((Hp.start w00).alloc (.cells #[.int .u8 k, .int .u32 t, .int .u32 m, .int .u32 tk, .int .u32 hs, .slice A P.length c, .slice A2 R.length c2] 28)).allocAt (.cells #[.int .u8 k', .int .u32 t', .int .u32 m', .int .u32 tk', .int .u32 hs', .slice A' P'.length c', .slice A2' R'.length c2'] 28) (w00.heap.size + 1) (by simp))
  clear h2 h3 h4 h5 k2 k3 k4 k5 hn hn' hP hP' hβ
  obtain ⟨n, hn⟩ : ∃ n, P.length = n := ⟨_, rfl⟩
  obtain ⟨p, hp⟩ : ∃ p, R.length = p := ⟨_, rfl⟩
  obtain ⟨n', hn'⟩ : ∃ n, P'.length = n := ⟨_, rfl⟩
  obtain ⟨p', hp'⟩ : ∃ p, R'.length = p := ⟨_, rfl⟩
  rw [hn, hp, hn', hp'] at KD HF H0
  rw [hn, hp, hn', hp']
  clear hn hp hn' hp'
  go_enter Try.func20, Try.ntmps20
  go_upto_region 1 with fail
  generalize (w00.alloc (.cells #[.int .u8 k, .int .u32 t, .int .u32 m, .int .u32 tk, .int .u32 hs, .slice A n c, .slice A2 p c2] 28)).alloc (.cells #[.int .u8 k', .int .u32 t', .int .u32 m', .int .u32 tk', .int .u32 hs', .slice A' n' c', .slice A2' p' c2'] 28) = W at *
  obtain ⟨gd, hgd⟩ : ∃ gd, w00.heap.size = gd := ⟨_, rfl⟩
  rw [hgd] at H0 HF KD
  rw [hgd]
  have HGD := Aside0.mk hgd
  clear hgd
  have a0 := blk_cell (H0.out.get (i := 1) rfl) 0
  have a1 := blk_cell (H0.out.get (i := 1) rfl) 1
  have a2 := blk_cell (H0.out.get (i := 1) rfl) 2
  have a3 := blk_cell (H0.out.get (i := 1) rfl) 3
  have a4 := blk_cell (H0.out.get (i := 1) rfl) 4
  have a5 := blk_cell (H0.out.get (i := 1) rfl) 5
  have a6 := blk_cell (H0.out.get (i := 1) rfl) 6
  have b0 := blk_cell (H0.out.get (i := 0) rfl) 0
  have b1 := blk_cell (H0.out.get (i := 0) rfl) 1
  have b2 := blk_cell (H0.out.get (i := 0) rfl) 2
  have b3 := blk_cell (H0.out.get (i := 0) rfl) 3
  have b4 := blk_cell (H0.out.get (i := 0) rfl) 4
  have b5 := blk_cell (H0.out.get (i := 0) rfl) 5
  have b6 := blk_cell (H0.out.get (i := 0) rfl) 6
  by_cases e0 : k = k'
  · subst e0
    by_cases e1 : t = t'
    · subst e1
      by_cases e2 : m = m'
      · subst e2
        go_wp2_with fail
        refine (KD.out β ⟨fun h => (HBE.out.1 h).2.2.2, fun h => HBE.out.2 (by exact ⟨trivial, trivial, trivial, h⟩)⟩ W H0.out.bel).mono ?_
        rintro e w1 ⟨rfl, hb1⟩
        have H1 := Aside0.mk (H0.out.call hb1)
        clear a0 a1 a2 a3 a4 a5 a6 b0 b1 b2 b3 b4 b5 b6 hb1 H0
        go_wp2_with fail
        go_ret
        rw [HGD.out]
        exact ⟨rfl, H1.out.bel⟩
      · have HT : Aside0 (β = false) := ⟨by
          rw [Bool.eq_false_iff]
          intro e
          exact e2 (HBE.out.1 e).2.2.1⟩
        go_wp2_with fail
        go_ret
        rw [HGD.out, HT.out]
        exact ⟨rfl, H0.out.bel⟩
    · have HT : Aside0 (β = false) := ⟨by
        rw [Bool.eq_false_iff]
        intro e
        exact e1 (HBE.out.1 e).2.1⟩
      go_wp2_with fail
      go_ret
      rw [HGD.out, HT.out]
      exact ⟨rfl, H0.out.bel⟩
  · have HT : Aside0 (β = false) := ⟨by
      rw [Bool.eq_false_iff]
      intro e
      exact e0 (HBE.out.1 e).1⟩
    go_wp2_with fail
    go_ret
    rw [HGD.out, HT.out]
    exact ⟨rfl, H0.out.bel⟩
theorem Kd.C_any0 {α : Type} {d : Kd α} {w : World} {A : Option Addr} (h : d.C w A 0 []) (z : World) : d.C z A 0 [] := ⟨rfl, by simp, fun hn => absurd hn (by simp)⟩
theorem ex_bytes : mBytes 2 5 2 0 0 [] [] = [2, 5, 0, 0, 0, 2, 0, 0, 0] := by decide
theorem ex_read : readR [2, 5, 0, 0, 0, 2, 0, 0, 0] = ⟨true, 2, 5, 2, 0, 0, [], []⟩ := by rw [readR_two]; rfl
theorem ex_ok : OkM 2 5 2 0 0 [] [] := OkM_zero (by omega) (by omega) (by omega)
set_option maxRecDepth 100000 in
set_option maxHeartbeats 16000000 in
theorem awake11_any (w00 : World) : Calls Try.prog 10 #[] w00 fun e w' => e = .returned (.bool true) ∧ Below w00.heap.size w00 w' := by
  obtain ⟨B, hB⟩ : ∃ B, w00.heap.size = B := ⟨_, rfl⟩
  have H0 := Aside0.mk ((Hp.start w00).allocAt (.cells #[.int .u8 2, .int .u32 5, .int .u32 2, .int .u32 0, .int .u32 0, .slice none 0 0, .slice none 0 0] 28) B hB)
  rw [hB] at H0
  rw [hB]
  have HB := Aside0.mk hB
  have hz7 := zero_msg
  go_enter Try.func10, Try.ntmps10
  go_wp2_with (first | (refine wpList_load_row_g 28 (.tmp 1) rfl B rfl rfl 28 _ (0, 0) _ (H0.out.get (i := 0) rfl) Try.underlying28 rfl (msg_info _ _ _ _ _ _ _) ?_))
  refine (mbytes_any 2 5 2 0 0 [] [] _ _ (MsC_zero _ _ _ _) ex_ok).mono ?_
  rintro e w1 ⟨v1, rfl, hv1, hb1⟩
  rw [ex_bytes] at hv1
  have H1 := Aside0.mk (H0.out.row hb1 hv1)
  obtain ⟨A1, c1, rfl, hc1, _⟩ := Kd.R_reads hv1
  rw [show ([2, 5, 0, 0, 0, 2, 0, 0, 0] : List Int).length = 9 from rfl] at H1 hc1
  rw [show ([2, 5, 0, 0, 0, 2, 0, 0, 0] : List Int).length = 9 from rfl]
  clear hv1 hb1 H0
  go_wp2_with fail
  refine (mread_any A1 9 c1 [2, 5, 0, 0, 0, 2, 0, 0, 0] _ (Ru_C (H1.out.fact (i := 0) rfl)).2.2 hc1 (by omega) (by intro b hb; simp only [List.mem_cons, List.not_mem_nil, or_false] at hb; omega)).mono ?_
  rintro e w2 ⟨⟨v2, rfl, hv2⟩, hb2⟩
  rw [ex_read] at hv2 ⊢
  simp only at hv2
  obtain ⟨A2, c2, A3, c3, rfl, h2, h3, h4, h5⟩ := hv2
  obtain ⟨g2, hg2⟩ : ∃ g2, w2.heap.size = g2 := ⟨_, rfl⟩
  have H2 := Aside0.mk ((H1.out.call hb2).allocAt (.cells #[.int .u8 2, .int .u32 5, .int .u32 2, .int .u32 0, .int .u32 0, .slice A2 0 c2, .slice A3 0 c3] 28) g2 hg2)
  have HV : Aside0 (∀ z, MsC z 2 5 2 0 0 [] [] (.agg #[.int .u8 2, .int .u32 5, .int .u32 2, .int .u32 0, .int .u32 0, .slice A2 0 c2, .slice A3 0 c3])) := ⟨fun z => ⟨A2, c2, A3, c3, rfl, Nat.zero_le _, Nat.zero_le _, Kd.C_any0 h4 z, Kd.C_any0 h5 z⟩⟩
  clear hb2 h2 h3 h4 h5 H1 hc1
  rw [show ([] : List Int).length = 0 from rfl, show ([] : List S59).length = 0 from rfl]
  go_wp2_with (first | (refine wpList_load_row_g 28 (.tmp 1) rfl B rfl rfl 28 _ (0, 0) _ (H2.out.get (i := 1) rfl) Try.underlying28 rfl (msg_info _ _ _ _ _ _ _) ?_))
  generalize w2.alloc (.cells #[.int .u8 2, .int .u32 5, .int .u32 2, .int .u32 0, .int .u32 0, .slice A2 0 c2, .slice A3 0 c3] 28) = W at *
  clear hg2
  refine (mbytes_any 2 5 2 0 0 [] [] _ _ (MsC_zero _ _ _ _) ex_ok).mono ?_
  rintro e w3 ⟨v3, rfl, hv3, hb3⟩
  rw [ex_bytes] at hv3
  have H3 := Aside0.mk (H2.out.call hb3)
  obtain ⟨A4, c4, rfl, hc4, _⟩ := Kd.R_reads hv3
  rw [show ([2, 5, 0, 0, 0, 2, 0, 0, 0] : List Int).length = 9 from rfl]
  clear hv3 hb3 H2 hc4
  go_wp2_with (first | (refine wpList_load_row_g 28 (.tmp 1) rfl B rfl rfl 28 _ (0, 0) _ (H3.out.get (i := 1) rfl) Try.underlying28 rfl (msg_info _ _ _ _ _ _ _) ?_) | (refine wpList_load_row_g 28 (.tmp 2) rfl g2 rfl rfl 28 _ (0, 0) _ (H3.out.get (i := 0) rfl) Try.underlying28 rfl (msg_info _ _ _ _ _ _ _) ?_))
  refine (mlike_any 2 5 2 0 0 2 5 2 0 0 [] [] [] [] _ _ _ (HV.out _) (MsC_zero _ _ _ _) Bytes.nil Bytes.nil (by simp) (by simp) true (by simp)).mono ?_
  rintro e w4 ⟨rfl, hb4⟩
  have H4 := Aside0.mk (H3.out.call hb4)
  clear hb4 H3
  go_wp2_with fail
  go_ret
  exact ⟨rfl, H4.out.bel⟩
end Go.Proofs.Yticpjidcgaaldaa

namespace Go.Proofs.Yticpjidcgaaldaa
open Go.RowKit Go.Proofs.YticpjidcgaaldaaW.PrintWords Go.Proofs.YticpjidcgaaldaaW.PrintLast Go.Proofs.YticpjidcgaaldaaW.PrintMore
attribute [local go_sem] max2_int min2_int max_two min_two max_three min_three max_four min_four   -- for this text's walks alone
set_option linter.unusedVariables false
set_option linter.unusedSimpArgs false

def hoodwinklaw11_few.f (k : Nat) (a0_0 : Int) (a0_1 : Int) (a0_2 : Int) (a0_3 : Int) (a0_4 : Int) (l0_5 : List Int) (l0_6 : List (S59)) : Option (Int × Int × Int × Int × Int × List Int × (List (S59))) := (hoodwinkref01_Cut.f k l0_5 60).bind fun t128 => ((some (([] : List (S59)) : List (S59))).bind fun y131 => (if 0 ≤ (mn (l0_6.length : Int) 60) then (if (mn (l0_6.length : Int) 60) ≤ (l0_6.length : Int) then ((some (l0_6.take ((mn (l0_6.length : Int) 60) : Int).toNat : List (S59))).bind fun y134 => (if y131.length + y134.length < 17592186044416 then (some (a0_0, a0_1, a0_2, a0_3, a0_4, t128, (y131 ++ y134))) else (none))) else (none)) else (none)))
theorem hoodwinklaw11_few.mono : ∀ a0 a1 a2 a3 a4 a5 a6 k, LeO (hoodwinklaw11_few.f k a0 a1 a2 a3 a4 a5 a6) (hoodwinklaw11_few.f (k + 1) a0 a1 a2 a3 a4 a5 a6) := by
  intro a0 a1 a2 a3 a4 a5 a6 k
  unfold hoodwinklaw11_few.f
  repeat' first
      | (with_reducible exact hoodwinkref01_Cut.mono _ _ _)
      | (with_reducible exact LeO.refl _)
      | (with_reducible exact LeO.none _)
      | (with_reducible refine LeO.ite ?_ ?_)
      | (with_reducible refine LeO.bind ?_ (fun _ => ?_))
      | exact hoodwinkref01_Cut.mono _ _ _
      | exact LeO.none _
      | refine LeO.ite ?_ ?_
      | refine LeO.bind ?_ (fun _ => ?_)
set_option maxHeartbeats 8000000 in
set_option maxRecDepth 100000 in
theorem hoodwinklaw11_few.calls (k : Nat) (a0_0 : Int) (a0_1 : Int) (a0_2 : Int) (a0_3 : Int) (a0_4 : Int) (A0_5 : Option Addr) (c0_5 : Nat) (l0_5 : List Int) (A0_6 : Option Addr) (c0_6 : Nat) (l0_6 : List (S59)) (r1 : Int) (r2 : Int) (r3 : Int) (r4 : Int) (r5 : Int) (r6 : List Int) (r7 : List (S59)) (w : World) (hr0_5 : Kd.C (Kd.int .u8) w A0_5 l0_5.length l0_5) (hc0_5 : l0_5.length ≤ c0_5) (hr0_6 : Kd.C k59 w A0_6 l0_6.length l0_6) (hc0_6 : l0_6.length ≤ c0_6) (h : hoodwinklaw11_few.f k a0_0 a0_1 a0_2 a0_3 a0_4 l0_5 l0_6 = some (r1, r2, r3, r4, r5, r6, r7)) :
    Calls Try.prog 11 #[.agg #[.int .u8 a0_0, .int .u32 a0_1, .int .u32 a0_2, .int .u32 a0_3, .int .u32 a0_4, .slice A0_5 l0_5.length c0_5, .slice A0_6 l0_6.length c0_6]] w fun e w' => ∃ v5_ v6_ : Value, e = .returned (.agg #[.int .u8 r1, .int .u32 r2, .int .u32 r3, .int .u32 r4, .int .u32 r5, v5_, v6_]) ∧ Kd.R (Kd.int .u8) 5 w' w.heap.size (fun _ => True) v5_ r6 ∧ Kd.R k59 59 w' w.heap.size (fun _ => True) v6_ r7 ∧ Below w.heap.size w w' := by
  have hu28 := Try.underlying28
  have HR0_5 := Aside0.mk hr0_5
  have HC0_5 := Aside0.mk hc0_5
  clear hr0_5 hc0_5
  have HR0_6 := Aside0.mk hr0_6
  have HC0_6 := Aside0.mk hc0_6
  clear hr0_6 hc0_6
  have HB := Aside0.mk (Below.refl w.heap.size w)
  have H : ((hoodwinkref01_Cut.f k l0_5 60).bind fun t128 => ((some (([] : List (S59)) : List (S59))).bind fun y131 => (if 0 ≤ (mn (l0_6.length : Int) 60) then (if (mn (l0_6.length : Int) 60) ≤ (l0_6.length : Int) then ((some (l0_6.take ((mn (l0_6.length : Int) 60) : Int).toNat : List (S59))).bind fun y134 => (if y131.length + y134.length < 17592186044416 then (some (a0_0, a0_1, a0_2, a0_3, a0_4, t128, (y131 ++ y134))) else (none))) else (none)) else (none)))) = some (r1, r2, r3, r4, r5, r6, r7) := h
  clear h
  replace H := Option.bind_eq_some_iff.mp H
  obtain ⟨t128, A20, H⟩ := H
  replace H : ((some (([] : List (S59)) : List (S59))).bind fun y131 => (if 0 ≤ (mn (l0_6.length : Int) 60) then (if (mn (l0_6.length : Int) 60) ≤ (l0_6.length : Int) then ((some (l0_6.take ((mn (l0_6.length : Int) 60) : Int).toNat : List (S59))).bind fun y134 => (if y131.length + y134.length < 17592186044416 then (some (a0_0, a0_1, a0_2, a0_3, a0_4, t128, (y131 ++ y134))) else (none))) else (none)) else (none))) = some (r1, r2, r3, r4, r5, r6, r7) := H
  have A2 := Aside0.mk A20
  clear A20
  obtain ⟨y131, hy131⟩ : ∃ y_ : List (S59), y_ = (([] : List (S59))) := ⟨_, rfl⟩
  replace H : (if 0 ≤ (mn (l0_6.length : Int) 60) then (if (mn (l0_6.length : Int) 60) ≤ (l0_6.length : Int) then ((some (l0_6.take ((mn (l0_6.length : Int) 60) : Int).toNat : List (S59))).bind fun y134 => (if y131.length + y134.length < 17592186044416 then (some (a0_0, a0_1, a0_2, a0_3, a0_4, t128, (y131 ++ y134))) else (none))) else (none)) else (none)) = some (r1, r2, r3, r4, r5, r6, r7) := by first | (rw [hy131]; with_reducible exact H) | (have H2_ := (Option.bind_some _ _).symm.trans H; rw [hy131]; with_reducible exact H2_) | (have H2_ := (Option.bind_some _ _).symm.trans H; with_reducible exact H2_) | with_reducible exact H | (rw [hy131]; exact H) | exact H
  have Ny131 := Aside0.mk hy131
  clear hy131
  obtain ⟨ji3, hji3⟩ : ∃ j_ : Int, (mn (l0_6.length : Int) 60) = j_ := ⟨_, rfl⟩
  replace H : (if 0 ≤ (ji3) then (if (ji3) ≤ (l0_6.length : Int) then ((some (l0_6.take ((ji3) : Int).toNat : List (S59))).bind fun y134 => (if y131.length + y134.length < 17592186044416 then (some (a0_0, a0_1, a0_2, a0_3, a0_4, t128, (y131 ++ y134))) else (none))) else (none)) else (none)) = some (r1, r2, r3, r4, r5, r6, r7) := by first | (rw [hji3] at H; exact H) | (simp only [hji3] at H ⊢; exact H)
  (try rw [hji3] at A2)
  (try (have hji3h : ji3 ≤ 60 := by (rw [← hji3]; unfold mn; (repeat' split) <;> omega)))
  (try (have hji3g : ji3 ≤ 64 := by omega))
  (try (have hji3l : 0 ≤ ji3 := by (rw [← hji3]; unfold mn; (repeat' split) <;> omega)))
  (try (have hji3m : 0 ≤ ji3 := by omega))
  have hji3_ : (if 60 < (l0_6.length : Int) then 60 else (l0_6.length : Int)) = ji3 := hji3
  by_cases c4 : 0 ≤ (ji3)
  · rw [if_pos c4] at H
    have c4b0 := eq_true c4
    have c4b1 : decide (0 ≤ (ji3)) = true := decide_eq_true c4
    clear c4
    by_cases c5 : (ji3) ≤ (l0_6.length : Int)
    · rw [if_pos c5] at H
      have c5b0 := eq_true c5
      have c5b1 : decide ((ji3) ≤ (l0_6.length : Int)) = true := decide_eq_true c5
      clear c5
      obtain ⟨y134, hy134⟩ : ∃ y_ : List (S59), y_ = (l0_6.take ((ji3) : Int).toNat) := ⟨_, rfl⟩
      replace H : (if y131.length + y134.length < 17592186044416 then (some (a0_0, a0_1, a0_2, a0_3, a0_4, t128, (y131 ++ y134))) else (none)) = some (r1, r2, r3, r4, r5, r6, r7) := by first | (rw [hy134]; with_reducible exact H) | (have H2_ := (Option.bind_some _ _).symm.trans H; rw [hy134]; with_reducible exact H2_) | (have H2_ := (Option.bind_some _ _).symm.trans H; with_reducible exact H2_) | with_reducible exact H | (rw [hy134]; exact H) | exact H
      have Ny134 := Aside0.mk hy134
      clear hy134
      by_cases c6 : y131.length + y134.length < 17592186044416
      · rw [if_pos c6] at H
        have LMc6 := Aside0.mk c6
        clear c6
        obtain ⟨y138, hy138⟩ : ∃ y_ : List (S59), y_ = (y131 ++ y134) := ⟨_, rfl⟩
        replace H : (some (a0_0, a0_1, a0_2, a0_3, a0_4, t128, y138)) = some (r1, r2, r3, r4, r5, r6, r7) := by first | (rw [hy138]; with_reducible exact H) | (have H2_ := (Option.bind_some _ _).symm.trans H; rw [hy138]; with_reducible exact H2_) | (have H2_ := (Option.bind_some _ _).symm.trans H; with_reducible exact H2_) | with_reducible exact H | (rw [hy138]; exact H) | exact H
        have Ny138 := Aside0.mk hy138
        clear hy138
        simp only [Option.some.injEq, Prod.mk.injEq] at H
        obtain ⟨rfl, rfl, rfl, rfl, rfl, rfl, rfl⟩ := H
        go_enter Try.func11, Try.ntmps11
        go_wp2_with (first | ((with_reducible refine gate_dst (N := 1) rfl ?_); refine box_event ?hg (N := 1) ?hd (cs := #[.int .u8 a0_0, .int .u32 a0_1, .int .u32 a0_2, .int .u32 a0_3, .int .u32 a0_4, .slice A0_5 l0_5.length c0_5, .slice A0_6 l0_6.length c0_6]) (t := 28) ?hr ?_; (case hd => rfl); (case hg => rfl); (case hr => first | (go_simp; done) | (go_simp; rfl)); intro gb126 hg w7 hbox hb; have n0_ := Aside0.mk (below_step (by repeat (first | (with_reducible first | exact HB.out | apply below_alloc | apply pw_below_drewN | apply below_drew1) | exact HB.out)) hb); have n1_ := Aside0.mk (hbox); have n2_ := Aside0.mk ((by rw [hg]; exact (below_size (by repeat (first | (with_reducible first | exact HB.out | apply below_alloc | apply pw_below_drewN | apply below_drew1) | exact HB.out))) : w.heap.size ≤ gb126)); have n3_ := Aside0.mk ((by rw [hg]; exact (below_size (by repeat (first | (with_reducible first | exact HB.out | apply below_alloc | apply pw_below_drewN | apply below_drew1) | exact HB.out))) : w.heap.size ≤ gb126)); clear HB; have HB := n0_; have BK126 := n1_; have GW126 := n2_; have GE126 := n3_; clear n0_ n1_ n2_ n3_; clear hb hbox hg) | ((with_reducible refine gate_dst (N := 2) rfl ?_); refine box_event ?hg (N := 2) ?hd (cs := #[.int .u8 0, .int .u32 0, .int .u32 0, .int .u32 0, .int .u32 0, .slice none 0 0, .slice none 0 0]) (t := 28) ?hr ?_; (case hd => rfl); (case hg => rfl); (case hr => first | (go_simp; done) | (go_simp; rfl)); intro gb127 hg w8 hbox hb; have n0_ := Aside0.mk (blk_below (g := gb126) (o := .cells #[.int .u8 a0_0, .int .u32 a0_1, .int .u32 a0_2, .int .u32 a0_3, .int .u32 a0_4, .slice A0_5 l0_5.length c0_5, .slice A0_6 l0_6.length c0_6] 28 (0, 0)) (by (with_reducible repeat (first | refine blk_drewN ?_ _ | refine blk_drew ?_ | refine blk_alloc ?_ _)); exact BK126.out) hb); have n1_ := Aside0.mk (below_step (by repeat (first | (with_reducible first | exact HB.out | apply below_alloc | apply pw_below_drewN | apply below_drew1 | refine below_set ?_ GE126.out) | exact HB.out)) hb); have n2_ := Aside0.mk (hbox); have n3_ := Aside0.mk ((by rw [hg]; exact (below_size (by repeat (first | (with_reducible first | exact HB.out | apply below_alloc | apply pw_below_drewN | apply below_drew1 | refine below_set ?_ GE126.out) | exact HB.out))) : w.heap.size ≤ gb127)); have n4_ := Aside0.mk ((by rw [hg]; exact (below_size (by repeat (first | (with_reducible first | exact HB.out | apply below_alloc | apply pw_below_drewN | apply below_drew1 | refine below_set ?_ GE126.out) | exact HB.out))) : w.heap.size ≤ gb127)); have n5_ := Aside0.mk ((by rw [hg]; exact Nat.ne_of_lt (blk_lt (g := gb126) (o := .cells #[.int .u8 a0_0, .int .u32 a0_1, .int .u32 a0_2, .int .u32 a0_3, .int .u32 a0_4, .slice A0_5 l0_5.length c0_5, .slice A0_6 l0_6.length c0_6] 28 (0, 0)) (by (with_reducible repeat (first | refine blk_drewN ?_ _ | refine blk_drew ?_ | refine blk_alloc ?_ _)); exact BK126.out)) : gb126 ≠ gb127)); have n6_ := Aside0.mk ((by rw [hg]; exact Nat.ne_of_gt (blk_lt (g := gb126) (o := .cells #[.int .u8 a0_0, .int .u32 a0_1, .int .u32 a0_2, .int .u32 a0_3, .int .u32 a0_4, .slice A0_5 l0_5.length c0_5, .slice A0_6 l0_6.length c0_6] 28 (0, 0)) (by (with_reducible repeat (first | refine blk_drewN ?_ _ | refine blk_drew ?_ | refine blk_alloc ?_ _)); exact BK126.out)) : gb127 ≠ gb126)); clear BK126; clear HB; have BK126 := n0_; have HB := n1_; have BK127 := n2_; have GW127 := n3_; have GE127 := n4_; have NB126_127 := n5_; have NB127_126 := n6_; clear n0_ n1_ n2_ n3_ n4_ n5_ n6_; clear hb hbox hg; have hnb9 := NB126_127.out; have hnc9 := NB127_126.out; have hcz10_0 : w8.cell? ⟨gb126, 0, none⟩ = some (.int .u8 a0_0) := (blk_cell BK126.out 0).trans rfl; have hcz10_1 : w8.cell? ⟨gb126, 1, none⟩ = some (.int .u32 a0_1) := (blk_cell BK126.out 1).trans rfl; have hcz10_2 : w8.cell? ⟨gb126, 2, none⟩ = some (.int .u32 a0_2) := (blk_cell BK126.out 2).trans rfl; have hcz10_3 : w8.cell? ⟨gb126, 3, none⟩ = some (.int .u32 a0_3) := (blk_cell BK126.out 3).trans rfl; have hcz10_4 : w8.cell? ⟨gb126, 4, none⟩ = some (.int .u32 a0_4) := (blk_cell BK126.out 4).trans rfl; have hcz10_5 : w8.cell? ⟨gb126, 5, none⟩ = some (.slice A0_5 l0_5.length c0_5) := (blk_cell BK126.out 5).trans rfl; have hcz10_6 : w8.cell? ⟨gb126, 6, none⟩ = some (.slice A0_6 l0_6.length c0_6) := (blk_cell BK126.out 6).trans rfl; have hfz10_0 := blk_frozen BK126.out 0; have hfz10_1 := blk_frozen BK126.out 1; have hfz10_2 := blk_frozen BK126.out 2; have hfz10_3 := blk_frozen BK126.out 3; have hfz10_4 := blk_frozen BK126.out 4; have hfz10_5 := blk_frozen BK126.out 5; have hfz10_6 := blk_frozen BK126.out 6) | ((with_reducible refine gate_callee (f := 12) rfl ?_); refine goesL_ (some 6) rfl rfl Try.func12 (by kernel_rfl) rfl #[.slice A0_5 l0_5.length c0_5, .int .i64 60] rfl (by (try simp only [List.map_toArray, List.map_cons, List.map_nil]); first | done | rfl | (simp only [List.length_drop, List.length_take]; rfl)) ?_; (with_reducible refine (hoodwinkref01_Cut.calls k _ _ l0_5 60 t128 _ ?side1 ?side2 A2.out).mono ?_); (case side1 => repeat (first | exact (Kd.C_below HR0_5.out HB.out) | (with_reducible refine Kd.C_alloc ?_ _) | (with_reducible refine Kd.C_drewN ?_ _) | (with_reducible refine Kd.C_drew ?_))); (case side2 => exact HC0_5.out); rintro e w11 ⟨v129, rfl, ho0, hb⟩; refine ⟨_, rfl, ?_⟩; have n0_ := Aside0.mk (Kd.R_lower ho0 (below_size (by repeat (first | (with_reducible first | exact HB.out | apply below_alloc | apply pw_below_drewN | apply below_drew1 | refine below_set ?_ GE126.out | refine below_set ?_ GE127.out) | exact HB.out)))); have n1_ := Aside0.mk (blk_below (g := gb126) (o := .cells #[.int .u8 a0_0, .int .u32 a0_1, .int .u32 a0_2, .int .u32 a0_3, .int .u32 a0_4, .slice A0_5 l0_5.length c0_5, .slice A0_6 l0_6.length c0_6] 28 (0, 0)) (by (with_reducible repeat (first | refine blk_drewN ?_ _ | refine blk_drew ?_ | refine blk_alloc ?_ _)); exact BK126.out) hb); have n2_ := Aside0.mk (blk_below (g := gb127) (o := .cells #[.int .u8 0, .int .u32 0, .int .u32 0, .int .u32 0, .int .u32 0, .slice none 0 0, .slice none 0 0] 28 (0, 0)) (by (with_reducible repeat (first | refine blk_drewN ?_ _ | refine blk_drew ?_ | refine blk_alloc ?_ _)); exact BK127.out) hb); have n3_ := Aside0.mk (below_step (by repeat (first | (with_reducible first | exact HB.out | apply below_alloc | apply pw_below_drewN | apply below_drew1 | refine below_set ?_ GE126.out | refine below_set ?_ GE127.out) | exact HB.out)) hb); clear BK126; clear BK127; clear HB; have HO130 := n0_; have BK126 := n1_; have BK127 := n2_; have HB := n3_; clear n0_ n1_ n2_ n3_; (try clear hb); (try clear hb2); (try clear hk); (try clear hi); (try clear ho0); obtain ⟨Ao12, co12, eo12⟩ := Kd.R_slice HO130.out; subst eo12; have hcz13_0 : w11.cell? ⟨gb126, 0, none⟩ = some (.int .u8 a0_0) := (blk_cell BK126.out 0).trans rfl; have hcz13_1 : w11.cell? ⟨gb126, 1, none⟩ = some (.int .u32 a0_1) := (blk_cell BK126.out 1).trans rfl; have hcz13_2 : w11.cell? ⟨gb126, 2, none⟩ = some (.int .u32 a0_2) := (blk_cell BK126.out 2).trans rfl; have hcz13_3 : w11.cell? ⟨gb126, 3, none⟩ = some (.int .u32 a0_3) := (blk_cell BK126.out 3).trans rfl; have hcz13_4 : w11.cell? ⟨gb126, 4, none⟩ = some (.int .u32 a0_4) := (blk_cell BK126.out 4).trans rfl; have hcz13_5 : w11.cell? ⟨gb126, 5, none⟩ = some (.slice A0_5 l0_5.length c0_5) := (blk_cell BK126.out 5).trans rfl; have hcz13_6 : w11.cell? ⟨gb126, 6, none⟩ = some (.slice A0_6 l0_6.length c0_6) := (blk_cell BK126.out 6).trans rfl; have hfz13_0 := blk_frozen BK126.out 0; have hfz13_1 := blk_frozen BK126.out 1; have hfz13_2 := blk_frozen BK126.out 2; have hfz13_3 := blk_frozen BK126.out 3; have hfz13_4 := blk_frozen BK126.out 4; have hfz13_5 := blk_frozen BK126.out 5; have hfz13_6 := blk_frozen BK126.out 6) | ((with_reducible refine gate_dst (N := 9) rfl ?_); refine Kd.R_lit k59 _ 59 ?hg (N := 9) ?hd (xs := ([] : List (S59))) (inner := []) (ok := fun _ => True) (okp := fun _ => True) ?hr ?hp (fun _ hk => hk) trivial (Below.refl _ _) (Nat.le_refl _) (by simp) ?_; (case hd => rfl); (case hg => rfl); (case hr => first | (go_simp; done) | (go_simp; rfl)); (case hp => exact (Reps.none _ _)); intro v132 w14 ho15 hb hg_ hnew_; clear hg_ hnew_; (first | rw [← Ny131.out] at ho15 | (simp only [Int.reduceToNat] at ho15; rw [← Ny131.out] at ho15)); have n0_ := Aside0.mk (Kd.R_below (by (with_reducible repeat (first | apply Kd.R_alloc | apply Kd.R_drewN | apply Kd.R_drew)); exact (Kd.R_mono (Kd.R_far (p := ⟨gb126, 5, none⟩) (Kd.R_types HO130.out BK126.out (by decide)) (fun _ hk => hk.2) (.slice Ao12 t128.length co12)) (fun _ h_ => h_.1))) hb); have n1_ := Aside0.mk (Kd.R_lower ho15 (below_size (by repeat (first | (with_reducible first | exact HB.out | apply below_alloc | apply pw_below_drewN | apply below_drew1 | refine below_set ?_ GE126.out | refine below_set ?_ GE127.out) | exact HB.out)))); have n2_ := Aside0.mk (blk_below (g := gb126) (o := .cells #[.int .u8 a0_0, .int .u32 a0_1, .int .u32 a0_2, .int .u32 a0_3, .int .u32 a0_4, .slice Ao12 t128.length co12, .slice A0_6 l0_6.length c0_6] 28 (0, 0)) (by (with_reducible repeat (first | refine blk_drewN ?_ _ | refine blk_drew ?_ | refine blk_alloc ?_ _)); refine blk_put (cs := #[.int .u8 a0_0, .int .u32 a0_1, .int .u32 a0_2, .int .u32 a0_3, .int .u32 a0_4, .slice A0_5 l0_5.length c0_5, .slice A0_6 l0_6.length c0_6]) ?_ 5 _ rfl; (with_reducible repeat (first | refine blk_drewN ?_ _ | refine blk_drew ?_ | refine blk_alloc ?_ _)); exact BK126.out) hb); have n3_ := Aside0.mk (blk_below (g := gb127) (o := .cells #[.int .u8 0, .int .u32 0, .int .u32 0, .int .u32 0, .int .u32 0, .slice none 0 0, .slice none 0 0] 28 (0, 0)) (by (with_reducible repeat (first | refine blk_drewN ?_ _ | refine blk_drew ?_ | refine blk_alloc ?_ _)); refine blk_far ?_ NB127_126.out _; (with_reducible repeat (first | refine blk_drewN ?_ _ | refine blk_drew ?_ | refine blk_alloc ?_ _)); exact BK127.out) hb); have n4_ := Aside0.mk (below_step (by repeat (first | (with_reducible first | exact HB.out | apply below_alloc | apply pw_below_drewN | apply below_drew1 | refine below_set ?_ GE126.out | refine below_set ?_ GE127.out) | exact HB.out)) hb); clear HO130; clear BK126; clear BK127; clear HB; have HO130 := n0_; have HO133 := n1_; have BK126 := n2_; have BK127 := n3_; have HB := n4_; clear n0_ n1_ n2_ n3_ n4_; clear hb ho15; have hcz16_0 : w14.cell? ⟨gb126, 0, none⟩ = some (.int .u8 a0_0) := (blk_cell BK126.out 0).trans rfl; have hcz16_1 : w14.cell? ⟨gb126, 1, none⟩ = some (.int .u32 a0_1) := (blk_cell BK126.out 1).trans rfl; have hcz16_2 : w14.cell? ⟨gb126, 2, none⟩ = some (.int .u32 a0_2) := (blk_cell BK126.out 2).trans rfl; have hcz16_3 : w14.cell? ⟨gb126, 3, none⟩ = some (.int .u32 a0_3) := (blk_cell BK126.out 3).trans rfl; have hcz16_4 : w14.cell? ⟨gb126, 4, none⟩ = some (.int .u32 a0_4) := (blk_cell BK126.out 4).trans rfl; have hcz16_5 : w14.cell? ⟨gb126, 5, none⟩ = some (.slice Ao12 t128.length co12) := (blk_cell BK126.out 5).trans rfl; have hcz16_6 : w14.cell? ⟨gb126, 6, none⟩ = some (.slice A0_6 l0_6.length c0_6) := (blk_cell BK126.out 6).trans rfl; have hfz16_0 := blk_frozen BK126.out 0; have hfz16_1 := blk_frozen BK126.out 1; have hfz16_2 := blk_frozen BK126.out 2; have hfz16_3 := blk_frozen BK126.out 3; have hfz16_4 := blk_frozen BK126.out 4; have hfz16_5 := blk_frozen BK126.out 5; have hfz16_6 := blk_frozen BK126.out 6; have q17 : ((ji3) : Int) ≤ ((l0_6.length : Int) : Int) := of_decide_eq_true (by first | (with_reducible assumption) | assumption); obtain ⟨i017, hi017, _, hsz17, _⟩ := info_parts info59; have hroom17 : l0_6.length ≤ c0_6 := HC0_6.out; have hC17 : Kd.C k59 _ A0_6 l0_6.length l0_6 := HR0_6.out; have hcut17 := cut_to (P := Try.prog) 24 59 .i64 Try.underlying24 hi017 A0_6 l0_6.length c0_6 (ji3) (of_decide_eq_true (by first | (with_reducible assumption) | assumption)) q17 hroom17; have hr17 := Kd.C_take (m := ((ji3) : Int).toNat) hC17 (by omega); have hy17 : y134.length = ((ji3) : Int).toNat := (by rw [Ny134.out, List.length_take]; omega); rw [← Ny134.out] at hr17; rw [← hy17] at hcut17; have HR137 := Aside0.mk hr17; have HC137 := Aside0.mk (show y134.length ≤ c0_6 from by omega); clear hr17 hC17 hroom17 hi017 hsz17; have KY17 := Aside0.mk hy17; clear hy17; replace q17 := eq_true q17) | ((with_reducible refine gate_builtin (b := .append) (xs := #[.tmp 9, .tmp 18]) rfl ?_); at_builtin; refine Kd.R_append_rows k59 (w0 := w) w.heap.size rfl (.tmp 9) (.tmp 18) 24 59 (.agg #[(.int .i32 0), (.int .u32 0)]) 8 rfl Try.underlying24 info59 rfl (by decide) (by omega) v132 y131 y134 _ _ _ (fun _ => True) (fun _ => False) rfl rfl ?aO ?aR (fun _ _ h => h) (fun _ h => h.elim) ?aF ?aB ?aS ?aL ?_; (case aR => repeat (first | exact (Kd.C_below HR137.out HB.out) | (with_reducible refine Kd.C_alloc ?_ _) | (with_reducible refine Kd.C_drewN ?_ _) | (with_reducible refine Kd.C_drew ?_))); (case aB => exact (by repeat (first | (with_reducible first | exact HB.out | apply below_alloc | apply pw_below_drewN | apply below_drew1 | refine below_set ?_ GE126.out | refine below_set ?_ GE127.out) | exact HB.out))); (case aF => exact (fun _ _ => trivial)); (case aO => exact (by (with_reducible repeat (first | apply Kd.R_alloc | apply Kd.R_drewN | apply Kd.R_drew)); exact HO133.out)); (case aS => exact (below_size (by repeat (first | (with_reducible first | exact HB.out | apply below_alloc | apply pw_below_drewN | apply below_drew1 | refine below_set ?_ GE126.out | refine below_set ?_ GE127.out) | exact HB.out)))); (case aL => have := LMc6.out; omega); intro v139 w18 ho hb hg hat; rw [← Ny138.out] at ho; have n0_ := Aside0.mk (blk_grown (g := gb126) (o := .cells #[.int .u8 a0_0, .int .u32 a0_1, .int .u32 a0_2, .int .u32 a0_3, .int .u32 a0_4, .slice Ao12 t128.length co12, .slice A0_6 l0_6.length c0_6] 28 (0, 0)) (by (with_reducible repeat (first | refine blk_drewN ?_ _ | refine blk_drew ?_ | refine blk_alloc ?_ _)); exact BK126.out) hg (Kd.R_ne HO133.out BK126.out (by decide))); have n1_ := Aside0.mk (blk_grown (g := gb127) (o := .cells #[.int .u8 0, .int .u32 0, .int .u32 0, .int .u32 0, .int .u32 0, .slice none 0 0, .slice none 0 0] 28 (0, 0)) (by (with_reducible repeat (first | refine blk_drewN ?_ _ | refine blk_drew ?_ | refine blk_alloc ?_ _)); exact BK127.out) hg (Kd.R_ne HO133.out BK127.out (by decide))); have n2_ := Aside0.mk (Kd.R_over' (by (with_reducible repeat (first | apply Kd.R_alloc | apply Kd.R_drewN | apply Kd.R_drew)); exact HO130.out) (Kd.R_typed (by (with_reducible repeat (first | apply Kd.R_alloc | apply Kd.R_drewN | apply Kd.R_drew)); exact HO133.out)) (by decide) hg); have n3_ := Aside0.mk (hb); have n4_ := Aside0.mk (ho); clear BK126; clear BK127; clear HO130; clear HB; clear HO133; have BK126 := n0_; have BK127 := n1_; have HO130 := n2_; have HB := n3_; have HO140 := n4_; clear n0_ n1_ n2_ n3_ n4_; clear ho hb hg hat; obtain ⟨Ao19, co19, eo19⟩ := Kd.R_slice HO140.out; subst eo19; have hcz20_0 : w18.cell? ⟨gb126, 0, none⟩ = some (.int .u8 a0_0) := (blk_cell BK126.out 0).trans rfl; have hcz20_1 : w18.cell? ⟨gb126, 1, none⟩ = some (.int .u32 a0_1) := (blk_cell BK126.out 1).trans rfl; have hcz20_2 : w18.cell? ⟨gb126, 2, none⟩ = some (.int .u32 a0_2) := (blk_cell BK126.out 2).trans rfl; have hcz20_3 : w18.cell? ⟨gb126, 3, none⟩ = some (.int .u32 a0_3) := (blk_cell BK126.out 3).trans rfl; have hcz20_4 : w18.cell? ⟨gb126, 4, none⟩ = some (.int .u32 a0_4) := (blk_cell BK126.out 4).trans rfl; have hcz20_5 : w18.cell? ⟨gb126, 5, none⟩ = some (.slice Ao12 t128.length co12) := (blk_cell BK126.out 5).trans rfl; have hcz20_6 : w18.cell? ⟨gb126, 6, none⟩ = some (.slice A0_6 l0_6.length c0_6) := (blk_cell BK126.out 6).trans rfl; have hfz20_0 := blk_frozen BK126.out 0; have hfz20_1 := blk_frozen BK126.out 1; have hfz20_2 := blk_frozen BK126.out 2; have hfz20_3 := blk_frozen BK126.out 3; have hfz20_4 := blk_frozen BK126.out 4; have hfz20_5 := blk_frozen BK126.out 5; have hfz20_6 := blk_frozen BK126.out 6; have hcz21_0 : w18.cell? ⟨gb127, 0, none⟩ = some (.int .u8 0) := (blk_cell BK127.out 0).trans rfl; have hcz21_1 : w18.cell? ⟨gb127, 1, none⟩ = some (.int .u32 0) := (blk_cell BK127.out 1).trans rfl; have hcz21_2 : w18.cell? ⟨gb127, 2, none⟩ = some (.int .u32 0) := (blk_cell BK127.out 2).trans rfl; have hcz21_3 : w18.cell? ⟨gb127, 3, none⟩ = some (.int .u32 0) := (blk_cell BK127.out 3).trans rfl; have hcz21_4 : w18.cell? ⟨gb127, 4, none⟩ = some (.int .u32 0) := (blk_cell BK127.out 4).trans rfl; have hcz21_5 : w18.cell? ⟨gb127, 5, none⟩ = some (.slice none 0 0) := (blk_cell BK127.out 5).trans rfl; have hcz21_6 : w18.cell? ⟨gb127, 6, none⟩ = some (.slice none 0 0) := (blk_cell BK127.out 6).trans rfl; have hfz21_0 := blk_frozen BK127.out 0; have hfz21_1 := blk_frozen BK127.out 1; have hfz21_2 := blk_frozen BK127.out 2; have hfz21_3 := blk_frozen BK127.out 3; have hfz21_4 := blk_frozen BK127.out 4; have hfz21_5 := blk_frozen BK127.out 5; have hfz21_6 := blk_frozen BK127.out 6))
        refine bodyPost_ret (results_cell_row rfl _ _ gb127 28 #[.int .u8 a0_0, .int .u32 a0_1, .int .u32 a0_2, .int .u32 a0_3, .int .u32 a0_4, .slice Ao12 t128.length co12, .slice Ao19 y138.length co19] (0, 0) _ rfl (by (with_reducible repeat (first | refine blk_drewN ?_ _ | refine blk_drew ?_ | refine blk_alloc ?_ _)); refine blk_put (cs := #[.int .u8 a0_0, .int .u32 a0_1, .int .u32 a0_2, .int .u32 a0_3, .int .u32 a0_4, .slice Ao12 t128.length co12, .slice none 0 0]) ?_ 6 _ rfl; (with_reducible repeat (first | refine blk_drewN ?_ _ | refine blk_drew ?_ | refine blk_alloc ?_ _)); refine blk_put (cs := #[.int .u8 a0_0, .int .u32 a0_1, .int .u32 a0_2, .int .u32 a0_3, .int .u32 a0_4, .slice none 0 0, .slice none 0 0]) ?_ 5 _ rfl; (with_reducible repeat (first | refine blk_drewN ?_ _ | refine blk_drew ?_ | refine blk_alloc ?_ _)); refine blk_put (cs := #[.int .u8 a0_0, .int .u32 a0_1, .int .u32 a0_2, .int .u32 a0_3, .int .u32 0, .slice none 0 0, .slice none 0 0]) ?_ 4 _ rfl; (with_reducible repeat (first | refine blk_drewN ?_ _ | refine blk_drew ?_ | refine blk_alloc ?_ _)); refine blk_put (cs := #[.int .u8 a0_0, .int .u32 a0_1, .int .u32 a0_2, .int .u32 0, .int .u32 0, .slice none 0 0, .slice none 0 0]) ?_ 3 _ rfl; (with_reducible repeat (first | refine blk_drewN ?_ _ | refine blk_drew ?_ | refine blk_alloc ?_ _)); refine blk_put (cs := #[.int .u8 a0_0, .int .u32 a0_1, .int .u32 0, .int .u32 0, .int .u32 0, .slice none 0 0, .slice none 0 0]) ?_ 2 _ rfl; (with_reducible repeat (first | refine blk_drewN ?_ _ | refine blk_drew ?_ | refine blk_alloc ?_ _)); refine blk_put (cs := #[.int .u8 a0_0, .int .u32 0, .int .u32 0, .int .u32 0, .int .u32 0, .slice none 0 0, .slice none 0 0]) ?_ 1 _ rfl; (with_reducible repeat (first | refine blk_drewN ?_ _ | refine blk_drew ?_ | refine blk_alloc ?_ _)); refine blk_put (cs := #[.int .u8 0, .int .u32 0, .int .u32 0, .int .u32 0, .int .u32 0, .slice none 0 0, .slice none 0 0]) ?_ 0 _ rfl; (with_reducible repeat (first | refine blk_drewN ?_ _ | refine blk_drew ?_ | refine blk_alloc ?_ _)); refine blk_far ?_ NB127_126.out _; (with_reducible repeat (first | refine blk_drewN ?_ _ | refine blk_drew ?_ | refine blk_alloc ?_ _)); exact BK127.out) Try.underlying28 rfl (by kernel_rfl)) rfl ?_
        exact ⟨_, _, by first | rfl | (simp [errW_none, errW_some] <;> rfl) | (simp only [← hji3]; first | rfl | (simp [errW_none, errW_some] <;> rfl)) | (simp [*, errW_none, errW_some] <;> rfl), by (with_reducible repeat (first | apply Kd.R_alloc | apply Kd.R_drewN | apply Kd.R_drew)); exact Kd.R_mono (Kd.R_far (p := ⟨gb127, 6, none⟩) (Kd.R_far (p := ⟨gb127, 5, none⟩) (Kd.R_far (p := ⟨gb127, 4, none⟩) (Kd.R_far (p := ⟨gb127, 3, none⟩) (Kd.R_far (p := ⟨gb127, 2, none⟩) (Kd.R_far (p := ⟨gb127, 1, none⟩) (Kd.R_far (p := ⟨gb127, 0, none⟩) (Kd.R_far (p := ⟨gb126, 6, none⟩) (Kd.R_types (Kd.R_types HO130.out BK126.out (by decide)) BK127.out (by decide)) (fun _ hk => hk.1.2) (.slice Ao19 y138.length co19)) (fun _ hk => hk.2) (.int .u8 a0_0)) (fun _ hk => hk.2) (.int .u32 a0_1)) (fun _ hk => hk.2) (.int .u32 a0_2)) (fun _ hk => hk.2) (.int .u32 a0_3)) (fun _ hk => hk.2) (.int .u32 a0_4)) (fun _ hk => hk.2) (.slice Ao12 t128.length co12)) (fun _ hk => hk.2) (.slice Ao19 y138.length co19)) (fun _ hk => trivial), by (with_reducible repeat (first | apply Kd.R_alloc | apply Kd.R_drewN | apply Kd.R_drew)); exact Kd.R_mono (Kd.R_far (p := ⟨gb127, 6, none⟩) (Kd.R_far (p := ⟨gb127, 5, none⟩) (Kd.R_far (p := ⟨gb127, 4, none⟩) (Kd.R_far (p := ⟨gb127, 3, none⟩) (Kd.R_far (p := ⟨gb127, 2, none⟩) (Kd.R_far (p := ⟨gb127, 1, none⟩) (Kd.R_far (p := ⟨gb127, 0, none⟩) (Kd.R_far (p := ⟨gb126, 6, none⟩) (Kd.R_types (Kd.R_types HO140.out BK126.out (by decide)) BK127.out (by decide)) (fun _ hk => hk.1.2) (.slice Ao19 y138.length co19)) (fun _ hk => hk.2) (.int .u8 a0_0)) (fun _ hk => hk.2) (.int .u32 a0_1)) (fun _ hk => hk.2) (.int .u32 a0_2)) (fun _ hk => hk.2) (.int .u32 a0_3)) (fun _ hk => hk.2) (.int .u32 a0_4)) (fun _ hk => hk.2) (.slice Ao12 t128.length co12)) (fun _ hk => hk.2) (.slice Ao19 y138.length co19)) (fun _ hk => trivial), by repeat (first | (with_reducible first | exact HB.out | apply below_alloc | apply pw_below_drewN | apply below_drew1 | refine below_set ?_ GE126.out | refine below_set ?_ GE127.out) | exact HB.out)⟩
      · rw [if_neg c6] at H
        exact absurd H (by simp)
    · rw [if_neg c5] at H
      exact absurd H (by simp)
  · rw [if_neg c4] at H
    exact absurd H (by simp)

end Go.Proofs.Yticpjidcgaaldaa

namespace Go.Proofs.Yticpjidcgaaldaa
open Go.RowKit Go.Proofs.YticpjidcgaaldaaW.PrintWords Go.Proofs.YticpjidcgaaldaaW.PrintLast Go.Proofs.YticpjidcgaaldaaW.PrintMore
set_option linter.unusedVariables false
set_option linter.unusedSimpArgs false

def MrC (w : World) (k t m tk hs : Int) (P : List Int) (R : List S97) (v : Value) : Prop :=
  ∃ A c A2 c2, v = .agg #[.int .u8 k, .int .u32 t, .int .u32 m, .int .u32 tk, .int .u32 hs, .slice A P.length c, .slice A2 R.length c2] ∧ P.length ≤ c ∧ R.length ≤ c2 ∧ (Kd.int .u8).C w A P.length P ∧ k97.C w A2 R.length R
theorem MrC.below {w w' : World} {k t m tk hs : Int} {P : List Int} {R : List S97} {v : Value} (h : MrC w k t m tk hs P R v) (hb : Below w.heap.size w w') : MrC w' k t m tk hs P R v := by
  obtain ⟨A, c, A2, c2, h1, h2, h3, h4, h5⟩ := h
  exact ⟨A, c, A2, c2, h1, h2, h3, Kd.C_below h4 hb, Kd.C_below h5 hb⟩
theorem few11_f (k t m tk hs : Int) (P : List Int) (C : List S59) (hP : P.length ≤ 9223372036854775807) : hoodwinklaw11_few.f (P.length + 1) k t m tk hs P C = some (k, t, m, tk, hs, P.take 60, C.take 60) := by
  have hc := cut_f P 60 (by omega) (by omega) hP
  have h1 : (0 : Int) ≤ mn (C.length : Int) 60 := by unfold mn; split <;> omega
  have h2 : mn (C.length : Int) 60 ≤ (C.length : Int) := by unfold mn; split <;> omega
  have h3 : (mn (C.length : Int) 60).toNat = min C.length 60 := by unfold mn; split <;> omega
  have h4 : C.take (min C.length 60) = C.take 60 := by rw [List.take_eq_take_iff]; omega
  unfold hoodwinklaw11_few.f
  rw [hc]
  show ((if 0 ≤ mn (C.length : Int) 60 then (if mn (C.length : Int) 60 ≤ (C.length : Int) then _ else none) else none : Option (Int × Int × Int × Int × Int × List Int × List S59))) = _
  rw [if_pos h1, if_pos h2, h3, h4]
  show (if ([] : List S59).length + (C.take 60).length < 17592186044416 then some (k, t, m, tk, hs, P.take 60, [] ++ C.take 60) else none) = _
  rw [if_pos (by rw [List.length_take]; simp; omega), List.nil_append]
theorem rmsg_info (a b c d e f g : Value) : (Try.prog.info? 39).map (·.size) = some (#[a, b, c, d, e, f, g] : Array Value).size := by kernel_rfl
theorem map_snoc {C : List S59} {i : Nat} (hi : i < C.length) : (C.take (i + 1)).map toR = (C.take i).map toR ++ [⟨C[i].f0, C[i].f1⟩] := by
  rw [take_snoc hi, List.map_append]; rfl

set_option maxRecDepth 100000 in
set_option maxHeartbeats 16000000 in
theorem saidS_any (k t m tk hs : Int) (P : List Int) (C : List S59) (A : Option Addr) (c : Nat) (A2 : Option Addr) (c2 : Nat) (w00 : World) (h2 : P.length ≤ c) (h3 : C.length ≤ c2) (h4 : (Kd.int .u8).C w00 A P.length P) (h5 : k59.C w00 A2 C.length C) (hn : C.length ≤ 1000000) :
    Calls Try.prog 15 #[.agg #[.int .u8 k, .int .u32 t, .int .u32 m, .int .u32 tk, .int .u32 hs, .slice A P.length c, .slice A2 C.length c2]] w00 fun e w' => ∃ A5 e5, e = .returned (.agg #[.int .u8 k, .int .u32 t, .int .u32 m, .int .u32 tk, .int .u32 hs, .slice A P.length c, .slice A5 C.length e5]) ∧ C.length ≤ e5 ∧ k97.R 97 w' w00.heap.size (fun _ => True) (.slice A5 C.length e5) (C.map toR) ∧ Below w00.heap.size w00 w' := by
  have HC := Aside0.mk (And.intro h2 (And.intro h3 hn))
  obtain ⟨B, hB⟩ : ∃ B, w00.heap.size = B := ⟨_, rfl⟩
  have HF : Aside0 (∀ z, Below B w00 z → (Kd.int .u8).C z A P.length P ∧ k59.C z A2 C.length C) := ⟨fun z hz => ⟨Kd.C_below h4 (hB ▸ hz), Kd.C_below h5 (hB ▸ hz)⟩⟩
  obtain ⟨n, hn'⟩ : ∃ n, P.length = n := ⟨_, rfl⟩
  obtain ⟨nc, hnc⟩ : ∃ n, C.length = n := ⟨_, rfl⟩
  have HNN := Aside0.mk (And.intro hn' hnc)
  rw [hn', hnc] at HC HF
  rw [hn', hnc]
  have H0 := Aside0.mk (((Hp.start w00).allocAt (.cells #[.int .u8 k, .int .u32 t, .int .u32 m, .int .u32 tk, .int .u32 hs, .slice A n c, .slice A2 nc c2] 28) B hB).allocAt (.cells #[.int .u8 0, .int .u32 0, .int .u32 0, .int .u32 0, .int .u32 0, .slice none 0 0, .slice none 0 0] 39) (B + 1) (by rw [← hB]; simp))
  rw [hB] at H0
  rw [hB]
  have hsz : ((w00.alloc (.cells #[.int .u8 k, .int .u32 t, .int .u32 m, .int .u32 tk, .int .u32 hs, .slice A n c, .slice A2 nc c2] 28)).alloc (.cells #[.int .u8 0, .int .u32 0, .int .u32 0, .int .u32 0, .int .u32 0, .slice none 0 0, .slice none 0 0] 39)).heap.size = B + 1 + 1 := by rw [← hB]; simp
  clear h2 h3 h4 h5 hn hn' hnc
  go_enter Try.func15, Try.ntmps15
  have H1 := Aside0.mk (H0.out.allocAt (.cells #[.int .u32 tk, .int .u32 hs, .slice A n c, .slice none 0 0] 37) (B + 1 + 1) hsz)
  have c0 := blk_cell (H0.out.get (i := 1) rfl) 0
  have c1 := blk_cell (H0.out.get (i := 1) rfl) 1
  have c2' := blk_cell (H0.out.get (i := 1) rfl) 2
  have c3 := blk_cell (H0.out.get (i := 1) rfl) 3
  have c4 := blk_cell (H0.out.get (i := 1) rfl) 4
  have c5 := blk_cell (H0.out.get (i := 1) rfl) 5
  have c6 := blk_cell (H0.out.get (i := 1) rfl) 6
  have e6 := blk_cell (H1.out.get (i := 2) rfl) 6
  clear hsz
  have hn0 : (0 : Int) ≤ nc := by omega
  have hn1 : (nc : Int) ≤ 1000000 := by have := HC.out.2.2; omega
  have HR0 : Aside0 (k97.R 97 (((w00.alloc (.cells #[.int .u8 k, .int .u32 t, .int .u32 m, .int .u32 tk, .int .u32 hs, .slice A n c, .slice A2 nc c2] 28)).alloc (.cells #[.int .u8 0, .int .u32 0, .int .u32 0, .int .u32 0, .int .u32 0, .slice none 0 0, .slice none 0 0] 39)).alloc (.cells #[.int .u32 tk, .int .u32 hs, .slice A n c, .slice none 0 0] 37)) B (fun _ => True) (.slice none 0 0) ((C.take 0).map toR)) := ⟨Kd.R_nil _ _ _ _ _⟩
  go_wp2_with fail
  generalize ((w00.alloc (.cells #[.int .u8 k, .int .u32 t, .int .u32 m, .int .u32 tk, .int .u32 hs, .slice A n c, .slice A2 nc c2] 28)).alloc (.cells #[.int .u8 0, .int .u32 0, .int .u32 0, .int .u32 0, .int .u32 0, .slice none 0 0, .slice none 0 0] 39)).alloc (.cells #[.int .u32 tk, .int .u32 hs, .slice A n c, .slice none 0 0] 37) = W1 at *
  clear c0 c1 c2' c3 c4 c5 c6 e6 H0
  obtain ⟨gd, hgd⟩ : ∃ g, B + 1 + 1 = g := ⟨_, rfl⟩
  rw [hgd] at H1
  rw [hgd]
  clear hgd
  go_loopw [20] (fun v20 wr => ∃ i : Nat, i ≤ nc ∧ v20 = .int .i64 i ∧ ∃ vC, Aside0 (Hp B w00 wr [(gd, .cells #[.int .u32 tk, .int .u32 hs, .slice A n c, vC] 37 (0, 0)), (B + 1, .cells #[.int .u8 0, .int .u32 0, .int .u32 0, .int .u32 0, .int .u32 0, .slice none 0 0, .slice none 0 0] 39 (0, 0)), (B, .cells #[.int .u8 k, .int .u32 t, .int .u32 m, .int .u32 tk, .int .u32 hs, .slice A n c, .slice A2 nc c2] 28 (0, 0))] [] ∧ k97.R 97 wr B (fun _ => True) vC ((C.take i).map toR))) (fun v20 _ => nc - (intOf v20).toNat)
  case atStart => exact ⟨0, by omega, rfl, _, ⟨H1.out, HR0.out⟩⟩
  case round =>
    clear H1 HR0
    obtain ⟨i, hi, rfl, vC, H⟩ := hrel
    by_cases hlt : i < nc
    · have d1 : decide (i < nc) = true := decide_eq_true hlt
      have hiC : i < C.length := by rw [HNN.out.2]; exact hlt
      obtain ⟨a, hA, p0, p1⟩ := cell_at25 (HF.out wr H.out.1.bel).2 hiC
      subst hA
      have HX : Aside0 ((C.take (i + 1)).map toR = (C.take i).map toR ++ [⟨C[i].f0, C[i].f1⟩]) := ⟨map_snoc hiC⟩
      generalize C[i] = x at p0 p1 HX
      obtain ⟨x0, mk⟩ := x
      simp only at HX
      have hi0 : (0 : Int) ≤ i := by omega
      have hin : (i : Int) < nc := by omega
      have HLT := Aside0.mk hlt
      obtain ⟨R, hR⟩ : ∃ R, (C.take i).map toR = R := ⟨_, rfl⟩
      have HRL : Aside0 (R.length = i) := ⟨by rw [← hR, List.length_map, List.length_take]; omega⟩
      rw [hR] at H HX
      clear hR hiC
      obtain ⟨g5, hg5⟩ : ∃ g, wr.heap.size = g := ⟨_, rfl⟩
      have S1 := Aside0.mk (And.intro (H.out.1.box (.cells #[.int .i32 x0, .int .u32 mk] 59)) (Kd.R_below H.out.2 (below_alloc (Below.refl _ _) (.cells #[.int .i32 x0, .int .u32 mk] 59))))
      have q0 := blk_cell (blk_new wr (.cells #[.int .i32 x0, .int .u32 mk] 59)) 0
      have q1 := blk_cell (blk_new wr (.cells #[.int .i32 x0, .int .u32 mk] 59)) 1
      rw [hg5] at q0 q1
      have q3 := blk_cell (S1.out.1.get (i := 0) rfl) 3
      clear H
      obtain ⟨W2, hW2⟩ : ∃ W, wr.alloc (.cells #[.int .i32 x0, .int .u32 mk] 59) = W := ⟨_, rfl⟩
      rw [hW2] at S1 q0 q1 q3
      have W3B : Below W2.heap.size W2 (W2.alloc (.cells #[.int .i32 x0, .int .u32 mk] 97)) := below_alloc (Below.refl _ _) _
      have S2 := Aside0.mk (And.intro (S1.out.1.call W3B) (Kd.R_below S1.out.2 W3B))
      have HCX := Aside0.mk (C_one_cellR (x := ⟨x0, mk⟩) (blk_new W2 (.cells #[.int .i32 x0, .int .u32 mk] 97)))
      clear W3B S1
      have HLC : Aside0 ((R.length + 1) * 8 ≤ 140737488355328) := ⟨by have := HRL.out; have := HLT.out; have := HC.out.2.2; omega⟩

      go_wp2_with (at_builtin; go_loud (refine Kd.R_append_rows k97 (Rr := fun x cs => cs = [.int .i32 x.f0, .int .u32 x.f1]) (w0 := W2.alloc (.cells #[.int .i32 x0, .int .u32 mk] 97)) B rfl (.tmp 25) (.tmp 31) 35 97 (.agg #[.int .i32 0, .int .u32 0]) 8 rfl Try.underlying35 rcell_full rfl (by decide) (by decide) vC R [⟨x0, mk⟩] (some ⟨W2.heap.size, 0, none⟩) 1 1 (fun _ => True) (fun _ => False) rfl rfl S2.out.2 HCX.out (fun x cs h => by rw [h]; exact k97_mkM _ _ _ x) (fun _ h => h.elim) (fun _ _ => trivial) (Below.refl _ _) S2.out.1.le HLC.out ?_))
      intro v1 z4 hv4 hb4 hg4 _
      have hP4 : Hp B w00 z4 [(gd, .cells #[.int .u32 tk, .int .u32 hs, .slice A n c, vC] 37 (0, 0)), (B + 1, .cells #[.int .u8 0, .int .u32 0, .int .u32 0, .int .u32 0, .int .u32 0, .slice none 0 0, .slice none 0 0] 39 (0, 0)), (B, .cells #[.int .u8 k, .int .u32 t, .int .u32 m, .int .u32 tk, .int .u32 hs, .slice A n c, .slice (some a) nc c2] 28 (0, 0))] [] := Hp.grow S2.out.1 hg4 (fun k hk => Kd.R_base S2.out.2 k hk) (fun p hp => by
        simp only [List.mem_cons, List.not_mem_nil, or_false] at hp
        rcases hp with rfl | rfl | rfl
        · exact Kd.R_ne S2.out.2 (S2.out.1.get (i := 0) rfl) (by decide)
        · exact Kd.R_ne S2.out.2 (S2.out.1.get (i := 1) rfl) (by decide)
        · exact Kd.R_ne S2.out.2 (S2.out.1.get (i := 2) rfl) (by decide))
      have hn4 := Kd.R_ne hv4 (hP4.get (i := 0) rfl) (by decide)
      have hv5 : k97.R 97 (z4.setCell ⟨gd, 3, none⟩ v1) B (fun _ => True) v1 (R ++ [⟨x0, mk⟩]) := Kd.R_grown2 hv4 rfl (grown_setCell _ _ _ _) (fun j hj => by cases hj; exact hn4)
      have hP5 := hP4.setCell (i := 0) rfl 3 v1
      obtain ⟨A5, c5, hs5⟩ := Kd.R_slice hv4
      subst hs5
      generalize (R ++ [(⟨x0, mk⟩ : S97)]).length = l5 at *
      rw [← HX.out] at hv5
      have S5 := Aside0.mk (And.intro hP5 hv5)
      have S4 := Aside0.mk hP4
      clear hv4 hb4 hg4 hP4 hn4 hv5 hP5 S2 HCX HLC q0 q1 q3
      have q3 := blk_cell (S4.out.get (i := 0) rfl) 3
      have f3 := blk_frozen (S4.out.get (i := 0) rfl) 3
      go_wp2_with fail
      go_roundw
      case rel => exact ⟨i + 1, by omega, by go_num, _, S5⟩
      case measure => simp [intOf]; omega
    · obtain rfl : i = nc := by omega
      have d1 : decide (i < i) = false := decide_eq_false (by omega)
      have hfull : (C.take i).map toR = C.map toR := by rw [← HNN.out.2, List.take_length]
      rw [hfull] at H
      obtain ⟨A4, c4, q4, lc4, _⟩ := Kd.R_reads H.out.2
      rw [List.length_map, HNN.out.2] at q4 lc4
      subst q4
      have H9 := Aside0.mk H.out.1
      have HV := Aside0.mk (And.intro lc4 H.out.2)
      clear H hfull lc4
      have c0 := blk_cell (H9.out.get (i := 2) rfl) 0
      have c1 := blk_cell (H9.out.get (i := 2) rfl) 1
      have c2' := blk_cell (H9.out.get (i := 2) rfl) 2
      have H10 := Aside0.mk (H9.out.setRow (i := 1) rfl #[.int .u8 k, .int .u32 t, .int .u32 m, .int .u32 tk, .int .u32 hs, .slice A n c, .slice A4 i c4])
      have HV10 : Aside0 (k97.R 97 (wr.setRow (B + 1) #[.int .u8 k, .int .u32 t, .int .u32 m, .int .u32 tk, .int .u32 hs, .slice A n c, .slice A4 i c4]) B (fun _ => True) (.slice A4 i c4) (C.map toR)) := ⟨Kd.R_grown2 HV.out.2 rfl (grown_setRow _ _ _) (fun k hk => by cases hk; exact Kd.R_ne HV.out.2 (H9.out.get (i := 1) rfl) (by decide))⟩
      go_wp2_with (first | (refine wpList_load_row_g 37 (.tmp 3) rfl gd rfl rfl 37 _ (0, 0) _ (H9.out.get (i := 0) rfl) Try.underlying37 rfl (rdelta_info _ _ _ _) ?_) | (refine wpList_store_row rfl 39 (.tmp 2) (.tmp 42) rfl (B + 1) #[.int .u8 k, .int .u32 t, .int .u32 m, .int .u32 tk, .int .u32 hs, .slice A n c, .slice A4 i c4] rfl rfl 39 _ (H9.out.get (i := 1) rfl) (rmsg_info _ _ _ _ _ _ _) rfl (by simp [Value.oneCell']) ?_))
      refine bodyPost_ret (results_cell_row rfl _ _ (B + 1) _ #[.int .u8 k, .int .u32 t, .int .u32 m, .int .u32 tk, .int .u32 hs, .slice A n c, .slice A4 i c4] (0, 0) _ rfl (H10.out.get (i := 1) rfl) Try.underlying39 rfl (rmsg_info _ _ _ _ _ _ _)) rfl ?_
      exact ⟨A4, c4, rfl, HV.out.1, HV10.out, H10.out.bel⟩
theorem said_any (k t m tk hs : Int) (P : List Int) (C : List S59) (v : Value) (w00 : World) (hv : MsC w00 k t m tk hs P C v) (hn : C.length ≤ 1000000) :
    Calls Try.prog 15 #[v] w00 fun e w' => ∃ v', e = .returned v' ∧ MrC w' k t m tk hs P (C.map toR) v' ∧ Below w00.heap.size w00 w' := by
  obtain ⟨A, c, A2, c2, rfl, h2, h3, h4, h5⟩ := hv
  refine (saidS_any k t m tk hs P C A c A2 c2 w00 h2 h3 h4 h5 hn).mono ?_
  rintro e w' ⟨A5, e5, rfl, k1, k2, hb⟩
  exact ⟨_, rfl, ⟨A, c, A5, e5, by rw [List.length_map], h2, by rw [List.length_map]; exact k1, Kd.C_below h4 hb, by rw [List.length_map]; exact (Ru_C k2).2.2⟩, hb⟩
end Go.Proofs.Yticpjidcgaaldaa

namespace Go.Proofs.Yticpjidcgaaldaa
open Go.RowKit Go.Proofs.YticpjidcgaaldaaW.PrintWords Go.Proofs.YticpjidcgaaldaaW.PrintLast Go.Proofs.YticpjidcgaaldaaW.PrintMore
set_option linter.unusedVariables false
set_option linter.unusedSimpArgs false

def RParseS (b : Nat) (q : List Int) (w' : World) (e : Ending) : Prop :=
  if okD q = true then ∃ v, e = .returned (.tuple #[v, .bool true]) ∧ RfR b w' (leN (q.take 4)) (leN ((q.drop 4).take 4)) (pL (q.drop 9) (cntD q)) ((cL (q.drop 9) (cntD q)).map toR) v
  else e = .returned (.tuple #[.agg Z4, .bool false])
theorem rparse_formS {b : Nat} {q : List Int} {w' : World} {e : Ending} (h : RParseS b q w' e) : ∃ A n c A2 m c2, e = .returned (.tuple #[.agg #[.int .u32 (tkQ q), .int .u32 (hsQ q), .slice A n c, .slice A2 m c2], .bool (okD q)]) ∧
    RfR b w' (tkQ q) (hsQ q) (plQ q) ((clQ q).map toR) (.agg #[.int .u32 (tkQ q), .int .u32 (hsQ q), .slice A n c, .slice A2 m c2]) := by
  unfold RParseS at h
  unfold tkQ hsQ plQ clQ
  by_cases hk : okD q = true
  · simp only [hk, if_true] at h ⊢
    obtain ⟨v, rfl, hv⟩ := h
    obtain ⟨A, c, A2, c2, rfl, h1, h2, h3, h4⟩ := hv
    exact ⟨A, _, c, A2, _, c2, rfl, A, c, A2, c2, rfl, h1, h2, h3, h4⟩
  · simp only [hk, if_false] at h ⊢
    subst h
    have hf : okD q = false := by simpa using hk
    exact ⟨none, 0, 0, none, 0, 0, rfl, none, 0, none, 0, rfl, Nat.le_refl _, Nat.le_refl _, Kd.R_nil _ _ _ _ _, Kd.R_nil _ _ _ _ _⟩
set_option maxRecDepth 100000 in
set_option maxHeartbeats 16000000 in
theorem rparseS_any (A : Option Addr) (n c : Nat) (q : List Int) (w00 : World) (hq : (Kd.int .u8).C w00 A n q) (hc : n ≤ c) (hn : n ≤ 100000000) (hb : Bytes q) :
    Calls Try.prog 52 #[.slice A n c] w00 fun e w' => RParseS w00.heap.size q w' e ∧ Below w00.heap.size w00 w' := by
  have HQL := Aside0.mk hq.1
  have HC := Aside0.mk hc
  have HN := Aside0.mk hn
  have HBQ := Aside0.mk hb
  have HF : Aside0 (∀ z, Below w00.heap.size w00 z → (Kd.int .u8).C z A n q) := ⟨fun z hz => Kd.C_below hq hz⟩
  have H0 := Aside0.mk ((Hp.start w00).alloc (.cells #[.int .u32 0, .int .u32 0, .slice none 0 0, .slice none 0 0] 37))
  obtain ⟨B, hB⟩ : ∃ B, w00.heap.size = B := ⟨_, rfl⟩
  rw [hB] at HF H0
  rw [hB]
  have HB := Aside0.mk hB
  clear hq hc hn hb
  have hzd := zero_rdelta
  have hn0 : (0 : Int) ≤ n := by omega
  have hn1 : (n : Int) ≤ 100000000 := by have := HN.out; omega
  go_enter Try.func52, Try.ntmps52
  by_cases h9 : (n : Int) < 9
  · have d9 : decide ((n : Int) < 9) = true := decide_eq_true h9
    have HOK : Aside0 (okD q = false) := ⟨by
      unfold okD
      rw [Bool.and_eq_false_iff]
      left
      rw [decide_eq_false_iff_not]
      have := HQL.out
      omega⟩
    go_wp2_with (first | (refine wpList_store_row rfl 37 (.tmp 2) (.tmp 20) rfl B #[.int .u32 0, .int .u32 0, .slice none 0 0, .slice none 0 0] rfl rfl 37 _ (H0.out.get (i := 0) rfl) (rdelta_info _ _ _ _) rfl (by simp [Value.oneCell']) ?_))
    have H9 := Aside0.mk (H0.out.setRow (i := 0) rfl #[.int .u32 0, .int .u32 0, .slice none 0 0, .slice none 0 0])
    refine bodyPost_ret (results_ct rfl _ _ B _ #[.int .u32 0, .int .u32 0, .slice none 0 0, .slice none 0 0] (0, 0) _ rfl (H9.out.get (i := 0) rfl) Try.underlying37 rfl (rdelta_info _ _ _ _)) rfl ?_
    refine ⟨?_, H9.out.bel⟩
    unfold RParseS
    rw [HOK.out]
    rfl
  · have d9 : decide ((n : Int) < 9) = false := decide_eq_false h9
    have h9' : 9 ≤ q.length := by have := HQL.out; omega
    obtain ⟨ad, hA, c8⟩ := int_at (HF.out _ H0.out.bel) 8 (by omega)
    have hb8 := HBQ.out _ (List.getElem_mem (show 8 < q.length by omega))
    obtain ⟨m, hm⟩ : ∃ m : Nat, q[8] = (m : Int) := ⟨(q[8]).toNat, by omega⟩
    have hcnt : cntD q = m := by
      unfold cntD
      rw [List.drop_eq_getElem_cons (show 8 < q.length by omega)]
      show (q[8]).toNat = m
      omega
    rw [hm] at c8 hb8
    simp only [Addr.add] at c8
    rw [if_neg (by decide)] at c8
    subst hA
    have HM := Aside0.mk (And.intro hcnt (show m ≤ 255 by omega))
    have hm0 : (0 : Int) ≤ m := by omega
    have hm1 : (m : Int) ≤ 255 := by omega
    have hn9 : (9 : Int) ≤ n := by omega
    clear hm hcnt h9' hb8
    by_cases hne : n = 9 + 9 * m
    · have dn : 9 + 9 * (m : Int) = n := by omega
      have HNE := Aside0.mk hne
      obtain ⟨tk, htk⟩ : ∃ tk, leN (q.take 4) = tk := ⟨_, rfl⟩
      obtain ⟨hs, hhs⟩ : ∃ hs, leN ((q.drop 4).take 4) = hs := ⟨_, rfl⟩
      have HTH := Aside0.mk (And.intro htk hhs)
      have HU1 : Aside0 (IntKind.u32.wrap tk = tk ∧ IntKind.u32.wrap hs = hs) := ⟨by
        have h1 := leN4 HBQ.out
        have h2 := leN4 (HBQ.out.drop 4)
        rw [htk] at h1
        rw [hhs] at h2
        unfold U32 at h1 h2
        exact ⟨IntWalk.u32_in _ (by omega), IntWalk.u32_in _ (by omega)⟩⟩
      obtain ⟨x1, x2⟩ := cut_h (P := Try.prog) .u8 .i64 23 5 1 Try.underlying23 np_info (some ad) n c 4 (by omega) HC.out
      obtain ⟨A4, y1, y2⟩ := cut_lh (P := Try.prog) .u8 .i64 .i64 23 5 1 Try.underlying23 np_info (some ad) n c 4 8 (by omega) (by omega) HC.out
      obtain ⟨A9, z1, z2, z3⟩ := eye_lo (P := Try.prog) .u8 .i64 23 5 1 Try.underlying23 np_info (some ad) n c 9 (by omega) HC.out
      have X1 : Aside0 (∀ W : World, (Instr.slice 23 (.slice (some ad) n c) none (some (.int .i64 4)) none).run Try.prog W = .ok (.slice (some ad) 4 c) W) := ⟨fun W => x1 W⟩
      have Y1 : Aside0 (∀ W : World, (Instr.slice 23 (.slice (some ad) n c) (some (.int .i64 4)) (some (.int .i64 8)) none).run Try.prog W = .ok (.slice A4 4 (c - 4)) W) := ⟨fun W => y1 W⟩
      have Z1 : Aside0 (∀ W : World, (Instr.slice 23 (.slice (some ad) n c) (some (.int .i64 9)) none none).run Try.prog W = .ok (.slice A9 (n - 9) (c - 9)) W) := ⟨fun W => z1 W⟩
      have X2 : Aside0 (∀ z, Below B w00 z → (Kd.int .u8).C z (some ad) 4 (q.take 4)) := ⟨fun z hz => x2 z q (HF.out z hz)⟩
      have Y2 : Aside0 (∀ z, Below B w00 z → (Kd.int .u8).C z A4 4 ((q.drop 4).take 4)) := ⟨fun z hz => by have := y2 z q (HF.out z hz); rw [List.drop_take] at this; exact this⟩
      have Z2 : Aside0 (∀ z, Below B w00 z → (Kd.int .u8).C z A9 (n - 9) (q.drop 9)) := ⟨fun z hz => z2 z q (HF.out z hz)⟩
      clear x1 x2 y1 y2 z1 z2 z3 htk hhs hne
      go_wp2_with fail
      have HLT0 : Aside0 (B ≤ (w00.alloc (.cells #[.int .u32 0, .int .u32 0, .slice none 0 0, .slice none 0 0] 37)).heap.size) := ⟨H0.out.le⟩
      have HBW : Aside0 (Below B w00 (w00.alloc (.cells #[.int .u32 0, .int .u32 0, .slice none 0 0, .slice none 0 0] 37))) := ⟨H0.out.bel⟩
      generalize w00.alloc (.cells #[.int .u32 0, .int .u32 0, .slice none 0 0, .slice none 0 0] 37) = W at *
      clear c8 dn hzd
      refine region_fill (W := W) 9 10 #[.int .u32 0, .int .u32 0, .slice none 0 0, .slice none 0 0] #[.int .u32 tk, .int .u32 hs, .slice none 0 0, .slice none 0 0] 37
        [fun (w : World) (v : Value) => v = .slice (some ad) n c,
         fun (w : World) (v : Value) => v = .slice (some ad) 4 c,
         fun (w : World) (v : Value) => v = .int .u64 tk,
         fun (w : World) (v : Value) => v = .int .u32 tk,
         fun (w : World) (v : Value) => v = .slice (some ad) n c,
         fun (w : World) (v : Value) => v = .slice A4 4 (c - 4),
         fun (w : World) (v : Value) => v = .int .u64 hs,
         fun (w : World) (v : Value) => v = .int .u32 hs,
         fun (w : World) (v : Value) => v = .agg #[.int .u32 tk, .int .u32 hs, .slice none 0 0, .slice none 0 0],
         fun (w : World) (v : Value) => Made W.heap.size (.cells #[.int .u32 0, .int .u32 0, .slice none 0 0, .slice none 0 0] 37 (0, 0)) (.cells #[.int .u32 tk, .int .u32 hs, .slice none 0 0, .slice none 0 0] 37 (0, 0)) w v,
         fun (w : World) (v : Value) => True]
        (fun j =>  none)
        [(0, some 21), (1, some 22), (2, some 23), (3, some 24), (4, some 25), (5, some 26), (6, some 27), (7, some 28), (8, some 29), (9, some 4), (10, none)]
        []
        (by kernel_rfl) (by kernel_rfl) (by kernel_rfl) (by kernel_rfl) (by kernel_rfl) ?r3_1z rfl rfl ?r3_1g ?r3_1s ⟨?r3_1o0, ?r3_1o1, ?r3_1o2, ?r3_1o3, ?r3_1o4, ?r3_1o5, ?r3_1o6, ?r3_1o7, ?r3_1o8, ?r3_1o9, ?r3_1o10, trivial⟩ ?r3_1e
      case r3_1z => first | (rw [boardC_size, boardC_size]) | rfl
      case r3_1g =>
        intro j hj; cases hj
      case r3_1s =>
        refine ⟨(fun w w' v hb h => h), (fun w w' v hb h => h), (fun w w' v hb h => h), (fun w w' v hb h => h), (fun w w' v hb h => h), (fun w w' v hb h => h), (fun w w' v hb h => h), (fun w w' v hb h => h), (fun w w' v hb h => h), (fun w w' v hb h => Made.stab w w' v hb h), (fun w w' v hb h => trivial), trivial⟩
      case r3_1o0 =>
        intro vs w hb hV
        rw [if_neg (by decide)]
        rw [if_pos (by first | kernel_rfl | rfl)]
        generalize hρ : rho _ _ _ vs = ρ
        have e0 : ρ (.tmp 0) = .slice (some ad) n c := by rw [← hρ]; kernel_rfl
        clear hρ hV
        refine runs_val (v := .slice (some ad) n c) (w' := w) ?_ ⟨Below.refl _ _, rfl⟩
        go_simp <;> (first | exact IntWalk.u64_in _ (by omega) | exact IntWalk.u32_in _ (by omega) | exact IntWalk.u16_in _ (by omega) | exact IntWalk.u8_in _ (by omega) | exact IntWalk.i64_in _ (by omega) | skip)
      case r3_1o1 =>
        intro vs w hb hV
        rw [if_neg (by decide)]
        rw [if_pos (by first | kernel_rfl | rfl)]
        generalize hρ : rho _ _ _ vs = ρ
        have d21 : (vs 0) = .slice (some ad) n c := hV 0 (by first | kernel_rfl | rfl)
        have e21 : ρ (.tmp 21) = vs 0 := by rw [← hρ]; kernel_rfl
        rw [d21] at e21; clear d21
        have econ : ∀ v : Value, ρ (.const v) = v := fun v => by rw [← hρ]; rfl
        clear hρ hV
        have r1 := X1.out w
        exact runs_slice 23 (.tmp 21) none (some (.const (.int .i64 4))) none rfl Try.underlying23 (by simp only [Option.map_some, Option.map_none, e21, econ]; exact r1) ⟨Below.refl _ _, rfl⟩
      case r3_1o2 =>
        intro vs w hb hV
        rw [if_neg (by decide)]
        rw [if_pos (by first | kernel_rfl | rfl)]
        generalize hρ : rho _ _ _ vs = ρ
        have d22 : (fun (w : World) (v : Value) => v = .slice (some ad) 4 c) w (vs 1) := hV 1 (by first | kernel_rfl | rfl)
        have e22 : ρ (.tmp 22) = vs 1 := by rw [← hρ]; kernel_rfl
        have ef51 : ρ (.func 51) = .func (.func 51) #[] #[] := by rw [← hρ]; rfl
        clear hρ hV
        rw [d22] at e22
        refine runs_call (f := 51) (args := #[.slice (some ad) 4 c]) (w' := w) ?_ ?_
        · clear d22; go_simp
        · refine (value_any (some ad) 4 c (q.take 4) w (X2.out w (HBW.out.trans (hb.mono HLT0.out))) (by have := HC.out; omega) (by omega) (HBQ.out.take 4)).mono ?_
          rintro e w5 ⟨rfl, hb5⟩
          exact ⟨_, rfl, hb5.below, congrArg (Value.int .u64) HTH.out.1⟩
      case r3_1o3 =>
        intro vs w hb hV
        rw [if_neg (by decide)]
        rw [if_pos (by first | kernel_rfl | rfl)]
        generalize hρ : rho _ _ _ vs = ρ
        have d23 : (vs 2) = .int .u64 tk := hV 2 (by first | kernel_rfl | rfl)
        have e23 : ρ (.tmp 23) = vs 2 := by rw [← hρ]; kernel_rfl
        rw [d23] at e23; clear d23
        clear hρ hV
        have ix := HU1.out.1
        refine runs_val (v := .int .u32 tk) (w' := w) ?_ ⟨Below.refl _ _, rfl⟩
        go_simp
        try exact ix
      case r3_1o4 =>
        intro vs w hb hV
        rw [if_neg (by decide)]
        rw [if_pos (by first | kernel_rfl | rfl)]
        generalize hρ : rho _ _ _ vs = ρ
        have e0 : ρ (.tmp 0) = .slice (some ad) n c := by rw [← hρ]; kernel_rfl
        clear hρ hV
        refine runs_val (v := .slice (some ad) n c) (w' := w) ?_ ⟨Below.refl _ _, rfl⟩
        go_simp <;> (first | exact IntWalk.u64_in _ (by omega) | exact IntWalk.u32_in _ (by omega) | exact IntWalk.u16_in _ (by omega) | exact IntWalk.u8_in _ (by omega) | exact IntWalk.i64_in _ (by omega) | skip)
      case r3_1o5 =>
        intro vs w hb hV
        rw [if_neg (by decide)]
        rw [if_pos (by first | kernel_rfl | rfl)]
        generalize hρ : rho _ _ _ vs = ρ
        have d25 : (vs 4) = .slice (some ad) n c := hV 4 (by first | kernel_rfl | rfl)
        have e25 : ρ (.tmp 25) = vs 4 := by rw [← hρ]; kernel_rfl
        rw [d25] at e25; clear d25
        have econ : ∀ v : Value, ρ (.const v) = v := fun v => by rw [← hρ]; rfl
        clear hρ hV
        have r1 := Y1.out w
        exact runs_slice 23 (.tmp 25) (some (.const (.int .i64 4))) (some (.const (.int .i64 8))) none rfl Try.underlying23 (by simp only [Option.map_some, Option.map_none, e25, econ]; exact r1) ⟨Below.refl _ _, rfl⟩
      case r3_1o6 =>
        intro vs w hb hV
        rw [if_neg (by decide)]
        rw [if_pos (by first | kernel_rfl | rfl)]
        generalize hρ : rho _ _ _ vs = ρ
        have d26 : (fun (w : World) (v : Value) => v = .slice A4 4 (c - 4)) w (vs 5) := hV 5 (by first | kernel_rfl | rfl)
        have e26 : ρ (.tmp 26) = vs 5 := by rw [← hρ]; kernel_rfl
        have ef51 : ρ (.func 51) = .func (.func 51) #[] #[] := by rw [← hρ]; rfl
        clear hρ hV
        rw [d26] at e26
        refine runs_call (f := 51) (args := #[.slice A4 4 (c - 4)]) (w' := w) ?_ ?_
        · clear d26; go_simp
        · refine (value_any A4 4 (c - 4) ((q.drop 4).take 4) w (Y2.out w (HBW.out.trans (hb.mono HLT0.out))) (by have := HC.out; omega) (by omega) ((HBQ.out.drop 4).take 4)).mono ?_
          rintro e w5 ⟨rfl, hb5⟩
          exact ⟨_, rfl, hb5.below, congrArg (Value.int .u64) HTH.out.2⟩
      case r3_1o7 =>
        intro vs w hb hV
        rw [if_neg (by decide)]
        rw [if_pos (by first | kernel_rfl | rfl)]
        generalize hρ : rho _ _ _ vs = ρ
        have d27 : (vs 6) = .int .u64 hs := hV 6 (by first | kernel_rfl | rfl)
        have e27 : ρ (.tmp 27) = vs 6 := by rw [← hρ]; kernel_rfl
        rw [d27] at e27; clear d27
        clear hρ hV
        have ix := HU1.out.2
        refine runs_val (v := .int .u32 hs) (w' := w) ?_ ⟨Below.refl _ _, rfl⟩
        go_simp
        try exact ix
      case r3_1o8 =>
        intro vs w hb hV
        rw [if_neg (by decide)]
        rw [if_pos (by first | kernel_rfl | rfl)]
        generalize hρ : rho _ _ _ vs = ρ
        have d24 : (vs 3) = .int .u32 tk := hV 3 (by first | kernel_rfl | rfl)
        have e24 : ρ (.tmp 24) = vs 3 := by rw [← hρ]; kernel_rfl
        rw [d24] at e24; clear d24
        have d28 : (vs 7) = .int .u32 hs := hV 7 (by first | kernel_rfl | rfl)
        have e28 : ρ (.tmp 28) = vs 7 := by rw [← hρ]; kernel_rfl
        rw [d28] at e28; clear d28
        clear hρ hV
        have hzd := zero_rdelta w
        refine runs_val (v := .agg #[.int .u32 tk, .int .u32 hs, .slice none 0 0, .slice none 0 0]) (w' := w) ?_ ⟨Below.refl _ _, rfl⟩
        go_simp
      case r3_1o9 =>
        intro vs w hb hV
        rw [if_neg (by decide)]
        rw [if_pos (by first | kernel_rfl | rfl)]
        generalize hρ : rho _ _ _ vs = ρ
        clear hρ hV
        refine runs_val (v := .pointer (some ⟨w.heap.size, 0, none⟩)) (w' := w.alloc (.cells #[.int .u32 0, .int .u32 0, .slice none 0 0, .slice none 0 0] 37)) ?_ ⟨below_alloc (Below.refl _ _) _, w.heap.size, rfl, hb.size, .inl (blk_new _ _)⟩
        go_simp
      case r3_1o10 =>
        intro vs w hb hV
        rw [if_pos rfl]
        intro g cur hg0 hcur hcsz
        generalize hρ : rho _ _ _ vs = ρ
        have d4 : (fun (w : World) (v : Value) => Made W.heap.size (.cells #[.int .u32 0, .int .u32 0, .slice none 0 0, .slice none 0 0] 37 (0, 0)) (.cells #[.int .u32 tk, .int .u32 hs, .slice none 0 0, .slice none 0 0] 37 (0, 0)) w v) w (vs 9) := hV 9 (by first | kernel_rfl | rfl)
        have e4 : ρ (.tmp 4) = vs 9 := by rw [← hρ]; kernel_rfl
        rw [hg0] at e4; clear d4
        have d29 : (vs 8) = .agg #[.int .u32 tk, .int .u32 hs, .slice none 0 0, .slice none 0 0] := hV 8 (by first | kernel_rfl | rfl)
        have e29 : ρ (.tmp 29) = vs 8 := by rw [← hρ]; kernel_rfl
        rw [d29] at e29; clear d29
        clear hρ hV
        exact runs_store_row 37 (.tmp 4) (.tmp 29) rfl g _ e4 e29 37 cur hcur (rdelta_info _ _ _ _) hcsz (by simp [Value.oneCell']) rfl
      case r3_1e =>
        intro vs W2 g4 hb2 hV hgP hgB4 hgF4
        have d21 : (vs 0) = .slice (some ad) n c := hV 0 (Nat.le_of_ble_eq_true rfl)
        have d22 : (fun (w : World) (v : Value) => v = .slice (some ad) 4 c) W2 (vs 1) := hV 1 (Nat.le_of_ble_eq_true rfl)
        have d23 : (vs 2) = .int .u64 tk := hV 2 (Nat.le_of_ble_eq_true rfl)
        have d24 : (vs 3) = .int .u32 tk := hV 3 (Nat.le_of_ble_eq_true rfl)
        have d25 : (vs 4) = .slice (some ad) n c := hV 4 (Nat.le_of_ble_eq_true rfl)
        have d26 : (fun (w : World) (v : Value) => v = .slice A4 4 (c - 4)) W2 (vs 5) := hV 5 (Nat.le_of_ble_eq_true rfl)
        have d27 : (vs 6) = .int .u64 hs := hV 6 (Nat.le_of_ble_eq_true rfl)
        have d28 : (vs 7) = .int .u32 hs := hV 7 (Nat.le_of_ble_eq_true rfl)
        have d29 : (vs 8) = .agg #[.int .u32 tk, .int .u32 hs, .slice none 0 0, .slice none 0 0] := hV 8 (Nat.le_of_ble_eq_true rfl)
        have d4 : vs 9 = .pointer (some ⟨g4, 0, none⟩) := hgP; clear hgP
        clear hV
        simp only [putAll]
        rw [d21, d23, d24, d25, d27, d28, d29, d4]
        clear d21 d23 d24 d25 d27 d28 d29 d4
        generalize vs 1 = v22 at *
        generalize vs 5 = v26 at *
        generalize vs 10 = vN10
        clear vs
        simp only [Act.put, List.setIfInBounds_toArray, List.set_cons_zero, List.set_cons_succ]
        have HP := H0.out.found hb2 hgB4 hgF4
        have hBg : B ≤ g4 := Nat.le_trans HLT0.out hgB4
        have S0 : Aside0 (RSt B g4 w00 W2 tk hs (.slice none 0 0) (.slice none 0 0) (.slice none 0 0) (.slice none 0 0) [] []) := ⟨HP, Kd.R_nil _ _ _ _ _, Kd.R_nil _ _ _ _ _, hBg⟩
        clear HP hBg hb2 hgB4 hgF4 d22 d26 H0 HBW HLT0 X1 X2 Y1 Y2
        have z1 := Z1.out
        go_wp2_with fail
        clear z1 Z1
        go_loopw [5] (fun v5 wr => ∃ i : Nat, i ≤ m ∧ ∃ (l : Nat) (A5 : Option Addr) (c5 : Nat), v5 = .slice A5 l c5 ∧ Aside0 (l = 9 * (m - i) ∧ l ≤ c5 ∧ (∀ z, Below B w00 z → (Kd.int .u8).C z A5 l (q.drop (9 + 9 * i))) ∧ ∃ vP vC, RSt B g4 w00 wr tk hs vP vC vP vC (pL (q.drop 9) i) ((cL (q.drop 9) i).map toR))) (fun v5 _ => lenV v5)
        case atStart => exact ⟨0, by omega, n - 9, A9, c - 9, rfl, ⟨by have := HNE.out; omega, by have := HC.out; omega, Z2.out, _, _, S0.out⟩⟩
        case round =>
          clear S0 Z2
          obtain ⟨i, hi, l, A5, c5, rfl, H⟩ := hrel
          obtain ⟨vP, vC, hS⟩ := H.out.2.2.2
          have S := Aside0.mk hS
          by_cases hlt : i < m
          · have hl9 : 9 ≤ l := by have := H.out.1; omega
            have hl0 : (0 : Int) < l := by omega
            have dl : decide ((0 : Int) < l) = true := decide_eq_true hl0
            have hlen := (H.out.2.2.1 wr hS.1.bel).1
            obtain ⟨a5, hA5, cc⟩ := int_at (H.out.2.2.1 wr hS.1.bel) 0 (by omega)
            subst hA5
            obtain ⟨b, hbb⟩ : ∃ b, (q.drop (9 + 9 * i))[0]'(by omega) = b := ⟨_, rfl⟩
            have hrow : rowP (q.drop 9) i = b := by
              unfold rowP
              rw [List.drop_drop, ← hbb]
              exact headD_get _ (by omega)
            have HB5 : Aside0 (∀ z, Below B w00 z → z.cell? a5 = some (.int .u8 b)) := ⟨fun z hz => by
              obtain ⟨a6, hA6, cc6⟩ := int_at (H.out.2.2.1 z hz) 0 (by omega)
              obtain rfl := Option.some.inj hA6
              rw [hbb] at cc6
              simpa [Addr.add] using cc6⟩
            have HROW := Aside0.mk hrow
            have HL9 := Aside0.mk hl9
            have HPL : Aside0 ((pL (q.drop 9) i).length ≤ 255 ∧ ((cL (q.drop 9) i).map toR).length ≤ 255) := ⟨by rw [pL_len, List.length_map, cL_len]; have := HM.out; omega⟩
            obtain ⟨P, hP⟩ : ∃ P, pL (q.drop 9) i = P := ⟨_, rfl⟩
            obtain ⟨R, hR⟩ : ∃ R, (cL (q.drop 9) i).map toR = R := ⟨_, rfl⟩
            rw [hP, hR] at S HPL
            have HPR := Aside0.mk (And.intro hP hR)
            obtain ⟨A15, p1, p2⟩ := cut_lh (P := Try.prog) .u8 .i64 .i64 23 5 1 Try.underlying23 np_info (some a5) l c5 1 5 (by omega) (by omega) H.out.2.1
            obtain ⟨A59, r1, r2⟩ := cut_lh (P := Try.prog) .u8 .i64 .i64 23 5 1 Try.underlying23 np_info (some a5) l c5 5 9 (by omega) (by omega) H.out.2.1
            obtain ⟨A90, o1, o2, o3⟩ := eye_lo (P := Try.prog) .u8 .i64 23 5 1 Try.underlying23 np_info (some a5) l c5 9 (by omega) H.out.2.1
            have P1 : Aside0 (∀ W : World, (Instr.slice 23 (.slice (some a5) l c5) (some (.int .i64 1)) (some (.int .i64 5)) none).run Try.prog W = .ok (.slice A15 4 (c5 - 1)) W) := ⟨fun W => p1 W⟩
            have R1 : Aside0 (∀ W : World, (Instr.slice 23 (.slice (some a5) l c5) (some (.int .i64 5)) (some (.int .i64 9)) none).run Try.prog W = .ok (.slice A59 4 (c5 - 5)) W) := ⟨fun W => r1 W⟩
            have O1 : Aside0 (∀ W : World, (Instr.slice 23 (.slice (some a5) l c5) (some (.int .i64 9)) none none).run Try.prog W = .ok (.slice A90 (l - 9) (c5 - 9)) W) := ⟨fun W => o1 W⟩
            have P2 : Aside0 (∀ z, Below B w00 z → (Kd.int .u8).C z A15 4 (((q.drop 9).drop (9 * i + 1)).take 4)) := ⟨fun z hz => by
              have := p2 z _ (H.out.2.2.1 z hz)
              rw [List.drop_take, List.drop_drop] at this
              rw [List.drop_drop, show 9 + (9 * i + 1) = 9 + 9 * i + 1 by omega]; exact this⟩
            have R2 : Aside0 (∀ z, Below B w00 z → (Kd.int .u8).C z A59 4 (((q.drop 9).drop (9 * i + 5)).take 4)) := ⟨fun z hz => by
              have := r2 z _ (H.out.2.2.1 z hz)
              rw [List.drop_take, List.drop_drop] at this
              rw [List.drop_drop, show 9 + (9 * i + 5) = 9 + 9 * i + 5 by omega]; exact this⟩
            have O2 : Aside0 (∀ z, Below B w00 z → (Kd.int .u8).C z A90 (l - 9) (q.drop (9 + 9 * (i + 1)))) := ⟨fun z hz => by
              have := o2 z _ (H.out.2.2.1 z hz)
              rw [List.drop_drop] at this
              rw [show 9 + 9 * (i + 1) = 9 + 9 * i + 9 by omega]; exact this⟩
            have HCL : Aside0 (4 ≤ c5 - 1 ∧ 4 ≤ c5 - 5 ∧ l - 9 ≤ c5 - 9) := ⟨by have := H.out.2.1; omega⟩
            obtain ⟨vv, hvv⟩ : ∃ vv, leN (((q.drop 9).drop (9 * i + 1)).take 4) = vv := ⟨_, rfl⟩
            obtain ⟨mk, hmk⟩ : ∃ mk, leN (((q.drop 9).drop (9 * i + 5)).take 4) = mk := ⟨_, rfl⟩
            obtain ⟨x0, hx0⟩ : ∃ x0, wrap32 vv = x0 := ⟨_, rfl⟩
            have hrc : rowC (q.drop 9) i = ⟨x0, mk⟩ := by unfold rowC; rw [hvv, hmk, hx0]
            have HV : Aside0 (leN (((q.drop 9).drop (9 * i + 1)).take 4) = vv ∧ leN (((q.drop 9).drop (9 * i + 5)).take 4) = mk ∧ wrap32 vv = x0) := ⟨⟨hvv, hmk, hx0⟩⟩
            have HVU : Aside0 (IntKind.u32.wrap vv = vv ∧ IntKind.u32.wrap mk = mk) := ⟨by
              have h1 := leN4 ((HBQ.out.drop 9).drop (9 * i + 1))
              have h2 := leN4 ((HBQ.out.drop 9).drop (9 * i + 5))
              rw [hvv] at h1
              rw [hmk] at h2
              unfold U32 at h1 h2
              exact ⟨IntWalk.u32_in _ (by omega), IntWalk.u32_in _ (by omega)⟩⟩
            have HRC := Aside0.mk hrc
            clear p1 p2 r1 r2 o1 o2 o3 hvv hmk hx0 hrc
            clear hS hlen cc hbb hrow hP hR hl9
            go_wp2_with fail
            have GW : Aside0 (∀ b', wr.heap.size ≤ b' → some b' ≠ vP.ownBlock ∧ some b' ≠ vC.ownBlock ∧ b' ≠ g4) := ⟨fun b' hb' => ⟨fun e => by have := Kd.R_lt S.out.2.1 _ e.symm; omega, fun e => by have := Kd.R_lt S.out.2.2.1 _ e.symm; omega, fun e => by have := S.out.1.lt (i := 0) rfl; omega⟩⟩
            refine regionS (W := wr)
              [fun _ v => v = .pointer (some ⟨g4, 2, none⟩),
               fun _ v => v = vP,
               fun _ v => v = .slice (some a5) l c5,
               fun _ v => v = .pointer (some a5),
               fun _ v => v = .int .u8 b,
               fun (w : World) (v : Value) => ∃ bl, v = .slice (some ⟨bl, 0, none⟩) 1 1 ∧ wr.heap.size ≤ bl ∧ w.heap[bl]? = some (.cells #[.int .u8 b] 5 (0, 0)),
               fun _ _ => True,
               fun _ v => v = .pointer (some ⟨g4, 2, none⟩),
               fun _ _ => True]
              [6, 8]
              (fun t => match t with | 0 => fun (rs : List Value) (w : World) => RSt B g4 w00 w tk hs vP vC vP vC P R | 1 => fun (rs : List Value) (w : World) => RSt B g4 w00 w tk hs vP vC (rs.getD 0 undef) vC (P ++ [b]) R | 2 => fun (rs : List Value) (w : World) => ∃ u, RSt B g4 w00 w tk hs u vC u vC (P ++ [b]) R | _ => fun _ _ => False)
              (fun _ w w' => ∀ b', wr.heap.size ≤ b' → b' < w.heap.size → w'.heap[b']? = w.heap[b']?) (fun w => wr.heap.size ≤ w.heap.size ∧ Below B w00 w)
              (fun j =>  none)
              [(0, some 37), (1, some 38), (2, some 39), (3, some 40), (4, some 41), (5, some 42), (6, some 43), (7, some 44), (8, none)]
              []
              (by kernel_rfl) (by kernel_rfl) (by kernel_rfl) (by kernel_rfl) (by kernel_rfl) ?z7_2c ?z7_2i ?z7_2b ?z7_2d ?z7_2g ⟨?z7_2t0, ?z7_2t1, ?z7_2t2, ?z7_2t3, ?z7_2t4, ?z7_2t5, ?z7_2t6, ?z7_2t7, ?z7_2t8, trivial⟩ ⟨?z7_2o0, ?z7_2o1, ?z7_2o2, ?z7_2o3, ?z7_2o4, ?z7_2o5, ?z7_2o6, ?z7_2o7, ?z7_2o8, trivial⟩ ?z7_2e
            case z7_2c => exact ⟨Nat.le_refl _, (S.out.below (below_drew (Below.refl _ _))).1.bel⟩
            case z7_2i => exact (S.out.below (below_drew (Below.refl _ _)))
            case z7_2b => intro w w' hb h; exact ⟨Nat.le_trans h.1 hb.size, h.2.trans (hb.mono (Nat.le_trans S.out.le h.1))⟩
            case z7_2d =>
              intro t rs w w' hb h
              match t, h with
              | 0, h => (replace h : RSt B g4 w00 w tk hs vP vC vP vC P R := h); show RSt B g4 w00 w' tk hs vP vC vP vC P R; first | exact RSt.below h hb | (obtain ⟨u, h⟩ := h; exact ⟨u, RSt.below h hb⟩)
              | 1, h => (replace h : RSt B g4 w00 w tk hs vP vC (rs.getD 0 undef) vC (P ++ [b]) R := h); show RSt B g4 w00 w' tk hs vP vC (rs.getD 0 undef) vC (P ++ [b]) R; first | exact RSt.below h hb | (obtain ⟨u, h⟩ := h; exact ⟨u, RSt.below h hb⟩)
              | 2, h => (replace h : ∃ u, RSt B g4 w00 w tk hs u vC u vC (P ++ [b]) R := h); show ∃ u, RSt B g4 w00 w' tk hs u vC u vC (P ++ [b]) R; first | exact RSt.below h hb | (obtain ⟨u, h⟩ := h; exact ⟨u, RSt.below h hb⟩)
              | _ + 3, h => exact h.elim
            case z7_2g =>
              intro j hj; cases hj
            case z7_2t0 => exact StabS.const _ _ _ _
            case z7_2t1 => exact StabS.const _ _ _ _
            case z7_2t2 => exact StabS.const _ _ _ _
            case z7_2t3 => exact StabS.const _ _ _ _
            case z7_2t4 => exact StabS.const _ _ _ _
            case z7_2t5 => exact ⟨(by intro w w' v hb h; (obtain ⟨bl, h1, h2, h3⟩ := h; exact ⟨bl, h1, h2, blk_below h3 hb⟩)), (by intro k hk hne w w' v ht h; (obtain ⟨bl, h1, h2, h3⟩ := h; exact ⟨bl, h1, h2, (ht bl h2 (blk_lt h3)).trans h3⟩))⟩
            case z7_2t6 => exact StabS.const _ _ _ _
            case z7_2t7 => exact StabS.const _ _ _ _
            case z7_2t8 => exact StabS.const _ _ _ _
            case z7_2o0 =>
              intro vs w t hC ht1 ht2 hS hV
              rw [if_pos (by kernel_rfl)]
              generalize hρ : rho _ _ _ vs = ρ
              have e4 : ρ (.tmp 4) = .pointer (some ⟨g4, 0, none⟩) := by rw [← hρ]; kernel_rfl
              clear hρ hV
              refine runs_val (v := .pointer (some ⟨g4, 2, none⟩)) (w' := w) ?_ ⟨Below.refl _ _, rfl⟩
              clear ht1 ht2 hS hC
              go_simp <;> (first | exact IntWalk.u64_in _ (by omega) | exact IntWalk.u32_in _ (by omega) | exact IntWalk.u16_in _ (by omega) | exact IntWalk.u8_in _ (by omega) | exact IntWalk.i64_in _ (by omega) | skip)
            case z7_2o1 =>
              intro vs w t hC ht1 ht2 hS hV
              rw [if_pos (by kernel_rfl)]
              generalize hρ : rho _ _ _ vs = ρ
              have d37 : (vs 0) = .pointer (some ⟨g4, 2, none⟩) := hV 0 (by kernel_rfl)
              have e37 : ρ (.tmp 37) = vs 0 := by rw [← hρ]; kernel_rfl
              rw [d37] at e37; clear d37
              clear hρ hV
              have ht0 : t ≤ 0 := by
                rcases Nat.lt_or_ge 0 t with hq | hq
                · exact absurd (ht1 0 6 _ hq rfl rfl) (by decide +kernel)
                · exact hq
              rcases (show t = 0 by omega) with rfl
              · replace hS : RSt B g4 w00 w tk hs vP vC vP vC P R := hS
                have c0 := RSt.cellP hS
                refine runs_val (v := vP) (w' := w) ?_ ⟨Below.refl _ _, rfl⟩
                clear ht1 ht2 hS hC
                go_simp
            case z7_2o2 =>
              intro vs w t hC ht1 ht2 hS hV
              rw [if_pos (by kernel_rfl)]
              generalize hρ : rho _ _ _ vs = ρ
              have e5 : ρ (.tmp 5) = .slice (some a5) l c5 := by rw [← hρ]; kernel_rfl
              clear hρ hV
              refine runs_val (v := .slice (some a5) l c5) (w' := w) ?_ ⟨Below.refl _ _, rfl⟩
              clear ht1 ht2 hS hC
              go_simp <;> (first | exact IntWalk.u64_in _ (by omega) | exact IntWalk.u32_in _ (by omega) | exact IntWalk.u16_in _ (by omega) | exact IntWalk.u8_in _ (by omega) | exact IntWalk.i64_in _ (by omega) | skip)
            case z7_2o3 =>
              intro vs w t hC ht1 ht2 hS hV
              rw [if_pos (by kernel_rfl)]
              generalize hρ : rho _ _ _ vs = ρ
              have d39 : (vs 2) = .slice (some a5) l c5 := hV 2 (by kernel_rfl)
              have e39 : ρ (.tmp 39) = vs 2 := by rw [← hρ]; kernel_rfl
              rw [d39] at e39; clear d39
              have econ : ∀ v : Value, ρ (.const v) = v := fun v => by rw [← hρ]; rfl
              clear hρ hV
              refine runs_val (v := .pointer (some a5)) (w' := w) ?_ ⟨Below.refl _ _, rfl⟩
              clear ht1 ht2 hS hC
              go_simp
            case z7_2o4 =>
              intro vs w t hC ht1 ht2 hS hV
              rw [if_pos (by kernel_rfl)]
              generalize hρ : rho _ _ _ vs = ρ
              have d40 : (vs 3) = .pointer (some a5) := hV 3 (by kernel_rfl)
              have e40 : ρ (.tmp 40) = vs 3 := by rw [← hρ]; kernel_rfl
              rw [d40] at e40; clear d40
              clear hρ hV
              have c0 := HB5.out w hC.2
              refine runs_val (v := .int .u8 b) (w' := w) ?_ ⟨Below.refl _ _, rfl⟩
              clear ht1 ht2 hS hC
              go_simp
            case z7_2o5 =>
              intro vs w t hC ht1 ht2 hS hV
              rw [if_pos (by kernel_rfl)]
              generalize hρ : rho _ _ _ vs = ρ
              have d41 : (vs 4) = .int .u8 b := hV 4 (by kernel_rfl)
              have e41 : ρ (.tmp 41) = vs 4 := by rw [← hρ]; kernel_rfl
              rw [d41] at e41; clear d41
              clear hρ hV
              refine runs_val (v := .slice (some ⟨w.heap.size, 0, none⟩) 1 1) (w' := w.alloc (.cells #[.int .u8 b] 5)) ?_ ⟨below_alloc (Below.refl _ _) _, ⟨w.heap.size, rfl, hC.1, blk_new _ _⟩⟩
              clear ht1 ht2 hS hC
              go_simp
            case z7_2o6 =>
              intro vs w hC hS hV
              replace hS : RSt B g4 w00 w tk hs vP vC vP vC P R := hS
              rw [if_pos (by kernel_rfl)]
              generalize hρ : rho _ _ _ vs = ρ
              have d38 : (vs 1) = vP := hV 1 (by kernel_rfl)
              have e38 : ρ (.tmp 38) = vs 1 := by rw [← hρ]; kernel_rfl
              rw [d38] at e38; clear d38
              have d42 : (fun (w : World) (v : Value) => ∃ bl, v = .slice (some ⟨bl, 0, none⟩) 1 1 ∧ wr.heap.size ≤ bl ∧ w.heap[bl]? = some (.cells #[.int .u8 b] 5 (0, 0))) w (vs 5) := hV 5 (by kernel_rfl)
              have e42 : ρ (.tmp 42) = vs 5 := by rw [← hρ]; kernel_rfl
              obtain ⟨bl, hve42, hbl1, hbl2⟩ := d42
              clear hρ hV
              rw [hve42] at e42
              refine runs_append (Kd.int .u8) (Rr := fun x cs => cs = [.int .u8 x]) B 38 42 23 5 (.int .u8 0) 1 rfl Try.underlying23 np_info rfl (by decide) (by decide) vP P [b] (some ⟨bl, 0, none⟩) 1 1 (fun _ => True) (fun _ => False) e38 e42 hS.2.1 (C_of_block (k := .u8) hbl2 ⟨rfl, rfl, by decide⟩) (fun _ _ h => h) (fun _ h => h.elim) (fun _ _ => trivial) hS.le (by have := HPL.out; omega) ?_
              intro v1 w1 h1 hg1 hat
              exact ⟨⟨Nat.le_trans hC.1 hg1.size, (hS.rowP hg1 h1).1.bel⟩, (fun b' h1 h2 => hg1.block b' h2 (GW.out b' h1).1), trivial, hS.rowP hg1 h1⟩
            case z7_2o7 =>
              intro vs w t hC ht1 ht2 hS hV
              rw [if_pos (by kernel_rfl)]
              generalize hρ : rho _ _ _ vs = ρ
              have e4 : ρ (.tmp 4) = .pointer (some ⟨g4, 0, none⟩) := by rw [← hρ]; kernel_rfl
              clear hρ hV
              refine runs_val (v := .pointer (some ⟨g4, 2, none⟩)) (w' := w) ?_ ⟨Below.refl _ _, rfl⟩
              clear ht1 ht2 hS hC
              go_simp <;> (first | exact IntWalk.u64_in _ (by omega) | exact IntWalk.u32_in _ (by omega) | exact IntWalk.u16_in _ (by omega) | exact IntWalk.u8_in _ (by omega) | exact IntWalk.i64_in _ (by omega) | skip)
            case z7_2o8 =>
              intro vs w hC hS hV
              replace hS : RSt B g4 w00 w tk hs vP vC (vs 6) vC (P ++ [b]) R := hS
              rw [if_pos (by kernel_rfl)]
              generalize hρ : rho _ _ _ vs = ρ
              have d44 : (vs 7) = .pointer (some ⟨g4, 2, none⟩) := hV 7 (by kernel_rfl)
              have e44 : ρ (.tmp 44) = vs 7 := by rw [← hρ]; kernel_rfl
              rw [d44] at e44; clear d44
              have d43 : (fun (w : World) (v : Value) => True) w (vs 6) := hV 6 (by kernel_rfl)
              have e43 : ρ (.tmp 43) = vs 6 := by rw [← hρ]; kernel_rfl
              clear hρ hV
              have hS2 := hS.setP
              obtain ⟨A5, c5, hs5⟩ := Kd.R_slice hS.2.1
              have f0 := blk_frozen (hS.1.get (i := 0) rfl) 2
              have c0 := RSt.cellP hS
              refine runs_skip (w' := w.setCell ⟨g4, 2, none⟩ (vs 6)) ?_ ⟨⟨Nat.le_trans hC.1 (by simp [World.setCell]), hS2.1.bel⟩, (fun b' h1 h2 => Below.heap_setCell _ _ _ _ (GW.out b' h1).2.2), trivial, ⟨_, hS2⟩⟩
              rw [hs5] at e43
              rw [hs5]
              clear hS hS2 hC d43 hs5
              go_simp
            case z7_2e =>
              intro vs w7 hC hS hV
              replace hS : (fun (w : World) => ∃ u, RSt B g4 w00 w tk hs u vC u vC (P ++ [b]) R) w7 := hS
              have d37 : (vs 0) = .pointer (some ⟨g4, 2, none⟩) := hV 0 (Nat.le_of_ble_eq_true rfl)
              have d38 : (vs 1) = vP := hV 1 (Nat.le_of_ble_eq_true rfl)
              have d39 : (vs 2) = .slice (some a5) l c5 := hV 2 (Nat.le_of_ble_eq_true rfl)
              have d40 : (vs 3) = .pointer (some a5) := hV 3 (Nat.le_of_ble_eq_true rfl)
              have d41 : (vs 4) = .int .u8 b := hV 4 (Nat.le_of_ble_eq_true rfl)
              have d42 : (fun (w : World) (v : Value) => ∃ bl, v = .slice (some ⟨bl, 0, none⟩) 1 1 ∧ wr.heap.size ≤ bl ∧ w.heap[bl]? = some (.cells #[.int .u8 b] 5 (0, 0))) w7 (vs 5) := hV 5 (Nat.le_of_ble_eq_true rfl)
              have d43 : (fun (w : World) (v : Value) => True) w7 (vs 6) := hV 6 (Nat.le_of_ble_eq_true rfl)
              have d44 : (vs 7) = .pointer (some ⟨g4, 2, none⟩) := hV 7 (Nat.le_of_ble_eq_true rfl)
              clear hV
              simp only [putAll]
              rw [d37, d38, d39, d40, d41, d44]
              clear d37 d38 d39 d40 d41 d44
              generalize vs 5 = v42 at *
              generalize vs 6 = v43 at *
              generalize vs 8 = vN8
              clear vs
              simp only [Act.put, List.setIfInBounds_toArray, List.set_cons_zero, List.set_cons_succ]
              obtain ⟨vP', hS⟩ := hS
              have S1 := Aside0.mk hS
              clear hS hC d42 d43 GW S
              go_wp2_with fail
              have GW : Aside0 (∀ b', w7.heap.size ≤ b' → some b' ≠ vP'.ownBlock ∧ some b' ≠ vC.ownBlock ∧ b' ≠ g4) := ⟨fun b' hb' => ⟨fun e => by have := Kd.R_lt S1.out.2.1 _ e.symm; omega, fun e => by have := Kd.R_lt S1.out.2.2.1 _ e.symm; omega, fun e => by have := S1.out.1.lt (i := 0) rfl; omega⟩⟩
              refine regionS (W := w7)
                [fun _ v => v = .pointer (some ⟨g4, 3, none⟩),
                 fun _ v => v = vC,
                 fun _ v => v = .slice (some a5) l c5,
                 fun _ v => v = .slice A15 4 (c5 - 1),
                 fun _ v => v = .int .u64 vv,
                 fun _ v => v = .int .u32 vv,
                 fun _ v => v = .int .i32 x0,
                 fun _ v => v = .slice (some a5) l c5,
                 fun _ v => v = .slice A59 4 (c5 - 5),
                 fun _ v => v = .int .u64 mk,
                 fun _ v => v = .int .u32 mk,
                 fun _ v => v = .agg #[.int .i32 x0, .int .u32 mk],
                 fun (w : World) (v : Value) => ∃ bl, v = .slice (some ⟨bl, 0, none⟩) 1 1 ∧ w7.heap.size ≤ bl ∧ w.heap[bl]? = some (.cells #[.int .i32 x0, .int .u32 mk] 97 (0, 0)),
                 fun _ _ => True,
                 fun _ v => v = .pointer (some ⟨g4, 3, none⟩),
                 fun _ _ => True]
                [13, 15]
                (fun t => match t with | 0 => fun (rs : List Value) (w : World) => RSt B g4 w00 w tk hs vP' vC vP' vC (P ++ [b]) R | 1 => fun (rs : List Value) (w : World) => RSt B g4 w00 w tk hs vP' vC vP' (rs.getD 0 undef) (P ++ [b]) (R ++ [⟨x0, mk⟩]) | 2 => fun (rs : List Value) (w : World) => ∃ u, RSt B g4 w00 w tk hs vP' u vP' u (P ++ [b]) (R ++ [⟨x0, mk⟩]) | _ => fun _ _ => False)
                (fun _ w w' => ∀ b', w7.heap.size ≤ b' → b' < w.heap.size → w'.heap[b']? = w.heap[b']?) (fun w => w7.heap.size ≤ w.heap.size ∧ Below B w00 w)
                (fun j =>  none)
                [(0, some 45), (1, some 46), (2, some 47), (3, some 48), (4, some 49), (5, some 50), (6, some 51), (7, some 52), (8, some 53), (9, some 54), (10, some 55), (11, some 56), (12, some 57), (13, some 58), (14, some 59), (15, none)]
                []
                (by kernel_rfl) (by kernel_rfl) (by kernel_rfl) (by kernel_rfl) (by kernel_rfl) ?z8_3c ?z8_3i ?z8_3b ?z8_3d ?z8_3g ⟨?z8_3t0, ?z8_3t1, ?z8_3t2, ?z8_3t3, ?z8_3t4, ?z8_3t5, ?z8_3t6, ?z8_3t7, ?z8_3t8, ?z8_3t9, ?z8_3t10, ?z8_3t11, ?z8_3t12, ?z8_3t13, ?z8_3t14, ?z8_3t15, trivial⟩ ⟨?z8_3o0, ?z8_3o1, ?z8_3o2, ?z8_3o3, ?z8_3o4, ?z8_3o5, ?z8_3o6, ?z8_3o7, ?z8_3o8, ?z8_3o9, ?z8_3o10, ?z8_3o11, ?z8_3o12, ?z8_3o13, ?z8_3o14, ?z8_3o15, trivial⟩ ?z8_3e
              case z8_3c => exact ⟨Nat.le_refl _, (S1.out.below (below_drew (Below.refl _ _))).1.bel⟩
              case z8_3i => exact (S1.out.below (below_drew (Below.refl _ _)))
              case z8_3b => intro w w' hb h; exact ⟨Nat.le_trans h.1 hb.size, h.2.trans (hb.mono (Nat.le_trans S1.out.le h.1))⟩
              case z8_3d =>
                intro t rs w w' hb h
                match t, h with
                | 0, h => (replace h : RSt B g4 w00 w tk hs vP' vC vP' vC (P ++ [b]) R := h); show RSt B g4 w00 w' tk hs vP' vC vP' vC (P ++ [b]) R; first | exact RSt.below h hb | (obtain ⟨u, h⟩ := h; exact ⟨u, RSt.below h hb⟩)
                | 1, h => (replace h : RSt B g4 w00 w tk hs vP' vC vP' (rs.getD 0 undef) (P ++ [b]) (R ++ [⟨x0, mk⟩]) := h); show RSt B g4 w00 w' tk hs vP' vC vP' (rs.getD 0 undef) (P ++ [b]) (R ++ [⟨x0, mk⟩]); first | exact RSt.below h hb | (obtain ⟨u, h⟩ := h; exact ⟨u, RSt.below h hb⟩)
                | 2, h => (replace h : ∃ u, RSt B g4 w00 w tk hs vP' u vP' u (P ++ [b]) (R ++ [⟨x0, mk⟩]) := h); show ∃ u, RSt B g4 w00 w' tk hs vP' u vP' u (P ++ [b]) (R ++ [⟨x0, mk⟩]); first | exact RSt.below h hb | (obtain ⟨u, h⟩ := h; exact ⟨u, RSt.below h hb⟩)
                | _ + 3, h => exact h.elim
              case z8_3g =>
                intro j hj; cases hj
              case z8_3t0 => exact StabS.const _ _ _ _
              case z8_3t1 => exact StabS.const _ _ _ _
              case z8_3t2 => exact StabS.const _ _ _ _
              case z8_3t3 => exact StabS.const _ _ _ _
              case z8_3t4 => exact StabS.const _ _ _ _
              case z8_3t5 => exact StabS.const _ _ _ _
              case z8_3t6 => exact StabS.const _ _ _ _
              case z8_3t7 => exact StabS.const _ _ _ _
              case z8_3t8 => exact StabS.const _ _ _ _
              case z8_3t9 => exact StabS.const _ _ _ _
              case z8_3t10 => exact StabS.const _ _ _ _
              case z8_3t11 => exact StabS.const _ _ _ _
              case z8_3t12 => exact ⟨(by intro w w' v hb h; (obtain ⟨bl, h1, h2, h3⟩ := h; exact ⟨bl, h1, h2, blk_below h3 hb⟩)), (by intro k hk hne w w' v ht h; (obtain ⟨bl, h1, h2, h3⟩ := h; exact ⟨bl, h1, h2, (ht bl h2 (blk_lt h3)).trans h3⟩))⟩
              case z8_3t13 => exact StabS.const _ _ _ _
              case z8_3t14 => exact StabS.const _ _ _ _
              case z8_3t15 => exact StabS.const _ _ _ _
              case z8_3o0 =>
                intro vs w t hC ht1 ht2 hS hV
                rw [if_pos (by kernel_rfl)]
                generalize hρ : rho _ _ _ vs = ρ
                have e4 : ρ (.tmp 4) = .pointer (some ⟨g4, 0, none⟩) := by rw [← hρ]; kernel_rfl
                clear hρ hV
                refine runs_val (v := .pointer (some ⟨g4, 3, none⟩)) (w' := w) ?_ ⟨Below.refl _ _, rfl⟩
                clear ht1 ht2 hS hC
                go_simp <;> (first | exact IntWalk.u64_in _ (by omega) | exact IntWalk.u32_in _ (by omega) | exact IntWalk.u16_in _ (by omega) | exact IntWalk.u8_in _ (by omega) | exact IntWalk.i64_in _ (by omega) | skip)
              case z8_3o1 =>
                intro vs w t hC ht1 ht2 hS hV
                rw [if_pos (by kernel_rfl)]
                generalize hρ : rho _ _ _ vs = ρ
                have d45 : (vs 0) = .pointer (some ⟨g4, 3, none⟩) := hV 0 (by kernel_rfl)
                have e45 : ρ (.tmp 45) = vs 0 := by rw [← hρ]; kernel_rfl
                rw [d45] at e45; clear d45
                clear hρ hV
                have ht0 : t ≤ 0 := by
                  rcases Nat.lt_or_ge 0 t with hq | hq
                  · exact absurd (ht1 0 13 _ hq rfl rfl) (by decide +kernel)
                  · exact hq
                rcases (show t = 0 by omega) with rfl
                · replace hS : RSt B g4 w00 w tk hs vP' vC vP' vC (P ++ [b]) R := hS
                  have c0 := RSt.cellC hS
                  refine runs_val (v := vC) (w' := w) ?_ ⟨Below.refl _ _, rfl⟩
                  clear ht1 ht2 hS hC
                  go_simp
              case z8_3o2 =>
                intro vs w t hC ht1 ht2 hS hV
                rw [if_pos (by kernel_rfl)]
                generalize hρ : rho _ _ _ vs = ρ
                have e5 : ρ (.tmp 5) = .slice (some a5) l c5 := by rw [← hρ]; kernel_rfl
                clear hρ hV
                refine runs_val (v := .slice (some a5) l c5) (w' := w) ?_ ⟨Below.refl _ _, rfl⟩
                clear ht1 ht2 hS hC
                go_simp <;> (first | exact IntWalk.u64_in _ (by omega) | exact IntWalk.u32_in _ (by omega) | exact IntWalk.u16_in _ (by omega) | exact IntWalk.u8_in _ (by omega) | exact IntWalk.i64_in _ (by omega) | skip)
              case z8_3o3 =>
                intro vs w t hC ht1 ht2 hS hV
                rw [if_pos (by kernel_rfl)]
                generalize hρ : rho _ _ _ vs = ρ
                have d47 : (vs 2) = .slice (some a5) l c5 := hV 2 (by kernel_rfl)
                have e47 : ρ (.tmp 47) = vs 2 := by rw [← hρ]; kernel_rfl
                rw [d47] at e47; clear d47
                have econ : ∀ v : Value, ρ (.const v) = v := fun v => by rw [← hρ]; rfl
                clear hρ hV
                have q1 := P1.out w
                exact runs_slice 23 (.tmp 47) (some (.const (.int .i64 1))) (some (.const (.int .i64 5))) none rfl Try.underlying23 (by simp only [Option.map_some, Option.map_none, e47, econ]; exact q1) ⟨Below.refl _ _, rfl⟩
              case z8_3o4 =>
                intro vs w t hC ht1 ht2 hS hV
                rw [if_pos (by kernel_rfl)]
                generalize hρ : rho _ _ _ vs = ρ
                have d48 : (vs 3) = .slice A15 4 (c5 - 1) := hV 3 (by kernel_rfl)
                have e48 : ρ (.tmp 48) = vs 3 := by rw [← hρ]; kernel_rfl
                rw [d48] at e48; clear d48
                have ef51 : ρ (.func 51) = .func (.func 51) #[] #[] := by rw [← hρ]; rfl
                clear hρ hV
                refine runs_call (f := 51) (args := #[.slice A15 4 (c5 - 1)]) (w' := w) ?_ ?_
                · clear ht1 ht2 hS hC; go_simp
                · refine (value_any A15 4 (c5 - 1) _ w (P2.out w hC.2) HCL.out.1 (by omega) (((HBQ.out.drop 9).drop (9 * i + 1)).take 4)).mono ?_
                  rintro e w5 ⟨rfl, hb5⟩
                  exact ⟨_, rfl, hb5.below, congrArg (Value.int .u64) HV.out.1⟩
              case z8_3o5 =>
                intro vs w t hC ht1 ht2 hS hV
                rw [if_pos (by kernel_rfl)]
                generalize hρ : rho _ _ _ vs = ρ
                have d49 : (vs 4) = .int .u64 vv := hV 4 (by kernel_rfl)
                have e49 : ρ (.tmp 49) = vs 4 := by rw [← hρ]; kernel_rfl
                rw [d49] at e49; clear d49
                clear hρ hV
                have ix := HVU.out.1
                refine runs_val (v := .int .u32 vv) (w' := w) ?_ ⟨Below.refl _ _, rfl⟩
                clear ht1 ht2 hS hC
                go_simp
                try exact ix
              case z8_3o6 =>
                intro vs w t hC ht1 ht2 hS hV
                rw [if_pos (by kernel_rfl)]
                generalize hρ : rho _ _ _ vs = ρ
                have d50 : (vs 5) = .int .u32 vv := hV 5 (by kernel_rfl)
                have e50 : ρ (.tmp 50) = vs 5 := by rw [← hρ]; kernel_rfl
                rw [d50] at e50; clear d50
                clear hρ hV
                have ix := HV.out.2.2
                refine runs_val (v := .int .i32 x0) (w' := w) ?_ ⟨Below.refl _ _, rfl⟩
                clear ht1 ht2 hS hC
                rw [← ix]
                clear ix
                go_simp
                try first | rfl | (rw [IntKind.wrap_i32]; rfl) | (rw [IntKind.wrap_i32]; unfold wrap32; omega)
              case z8_3o7 =>
                intro vs w t hC ht1 ht2 hS hV
                rw [if_pos (by kernel_rfl)]
                generalize hρ : rho _ _ _ vs = ρ
                have e5 : ρ (.tmp 5) = .slice (some a5) l c5 := by rw [← hρ]; kernel_rfl
                clear hρ hV
                refine runs_val (v := .slice (some a5) l c5) (w' := w) ?_ ⟨Below.refl _ _, rfl⟩
                clear ht1 ht2 hS hC
                go_simp <;> (first | exact IntWalk.u64_in _ (by omega) | exact IntWalk.u32_in _ (by omega) | exact IntWalk.u16_in _ (by omega) | exact IntWalk.u8_in _ (by omega) | exact IntWalk.i64_in _ (by omega) | skip)
              case z8_3o8 =>
                intro vs w t hC ht1 ht2 hS hV
                rw [if_pos (by kernel_rfl)]
                generalize hρ : rho _ _ _ vs = ρ
                have d52 : (vs 7) = .slice (some a5) l c5 := hV 7 (by kernel_rfl)
                have e52 : ρ (.tmp 52) = vs 7 := by rw [← hρ]; kernel_rfl
                rw [d52] at e52; clear d52
                have econ : ∀ v : Value, ρ (.const v) = v := fun v => by rw [← hρ]; rfl
                clear hρ hV
                have q1 := R1.out w
                exact runs_slice 23 (.tmp 52) (some (.const (.int .i64 5))) (some (.const (.int .i64 9))) none rfl Try.underlying23 (by simp only [Option.map_some, Option.map_none, e52, econ]; exact q1) ⟨Below.refl _ _, rfl⟩
              case z8_3o9 =>
                intro vs w t hC ht1 ht2 hS hV
                rw [if_pos (by kernel_rfl)]
                generalize hρ : rho _ _ _ vs = ρ
                have d53 : (vs 8) = .slice A59 4 (c5 - 5) := hV 8 (by kernel_rfl)
                have e53 : ρ (.tmp 53) = vs 8 := by rw [← hρ]; kernel_rfl
                rw [d53] at e53; clear d53
                have ef51 : ρ (.func 51) = .func (.func 51) #[] #[] := by rw [← hρ]; rfl
                clear hρ hV
                refine runs_call (f := 51) (args := #[.slice A59 4 (c5 - 5)]) (w' := w) ?_ ?_
                · clear ht1 ht2 hS hC; go_simp
                · refine (value_any A59 4 (c5 - 5) _ w (R2.out w hC.2) HCL.out.2.1 (by omega) (((HBQ.out.drop 9).drop (9 * i + 5)).take 4)).mono ?_
                  rintro e w5 ⟨rfl, hb5⟩
                  exact ⟨_, rfl, hb5.below, congrArg (Value.int .u64) HV.out.2.1⟩
              case z8_3o10 =>
                intro vs w t hC ht1 ht2 hS hV
                rw [if_pos (by kernel_rfl)]
                generalize hρ : rho _ _ _ vs = ρ
                have d54 : (vs 9) = .int .u64 mk := hV 9 (by kernel_rfl)
                have e54 : ρ (.tmp 54) = vs 9 := by rw [← hρ]; kernel_rfl
                rw [d54] at e54; clear d54
                clear hρ hV
                have ix := HVU.out.2
                refine runs_val (v := .int .u32 mk) (w' := w) ?_ ⟨Below.refl _ _, rfl⟩
                clear ht1 ht2 hS hC
                go_simp
                try exact ix
              case z8_3o11 =>
                intro vs w t hC ht1 ht2 hS hV
                rw [if_pos (by kernel_rfl)]
                generalize hρ : rho _ _ _ vs = ρ
                have d51 : (vs 6) = .int .i32 x0 := hV 6 (by kernel_rfl)
                have e51 : ρ (.tmp 51) = vs 6 := by rw [← hρ]; kernel_rfl
                rw [d51] at e51; clear d51
                have d55 : (vs 10) = .int .u32 mk := hV 10 (by kernel_rfl)
                have e55 : ρ (.tmp 55) = vs 10 := by rw [← hρ]; kernel_rfl
                rw [d55] at e55; clear d55
                clear hρ hV
                refine runs_val (v := .agg #[.int .i32 x0, .int .u32 mk]) (w' := w) ?_ ⟨Below.refl _ _, rfl⟩
                clear ht1 ht2 hS hC
                go_simp <;> (first | exact IntWalk.u64_in _ (by omega) | exact IntWalk.u32_in _ (by omega) | exact IntWalk.u16_in _ (by omega) | exact IntWalk.u8_in _ (by omega) | exact IntWalk.i64_in _ (by omega) | skip)
              case z8_3o12 =>
                intro vs w t hC ht1 ht2 hS hV
                rw [if_pos (by kernel_rfl)]
                generalize hρ : rho _ _ _ vs = ρ
                have d56 : (vs 11) = .agg #[.int .i32 x0, .int .u32 mk] := hV 11 (by kernel_rfl)
                have e56 : ρ (.tmp 56) = vs 11 := by rw [← hρ]; kernel_rfl
                rw [d56] at e56; clear d56
                clear hρ hV
                refine runs_val (v := .slice (some ⟨w.heap.size, 0, none⟩) 1 1) (w' := w.alloc (.cells #[.int .i32 x0, .int .u32 mk] 97)) ?_ ⟨below_alloc (Below.refl _ _) _, ⟨w.heap.size, rfl, hC.1, blk_new _ _⟩⟩
                clear ht1 ht2 hS hC
                go_simp
              case z8_3o13 =>
                intro vs w hC hS hV
                replace hS : RSt B g4 w00 w tk hs vP' vC vP' vC (P ++ [b]) R := hS
                rw [if_pos (by kernel_rfl)]
                generalize hρ : rho _ _ _ vs = ρ
                have d46 : (vs 1) = vC := hV 1 (by kernel_rfl)
                have e46 : ρ (.tmp 46) = vs 1 := by rw [← hρ]; kernel_rfl
                rw [d46] at e46; clear d46
                have d57 : (fun (w : World) (v : Value) => ∃ bl, v = .slice (some ⟨bl, 0, none⟩) 1 1 ∧ w7.heap.size ≤ bl ∧ w.heap[bl]? = some (.cells #[.int .i32 x0, .int .u32 mk] 97 (0, 0))) w (vs 12) := hV 12 (by kernel_rfl)
                have e57 : ρ (.tmp 57) = vs 12 := by rw [← hρ]; kernel_rfl
                obtain ⟨bl, hve57, hbl1, hbl2⟩ := d57
                clear hρ hV
                rw [hve57] at e57
                refine runs_append k97 (Rr := fun x cs => cs = [.int .i32 x.f0, .int .u32 x.f1]) B 46 57 35 97 (.agg #[.int .i32 0, .int .u32 0]) 8 rfl Try.underlying35 rcell_full rfl (by decide) (by decide) vC R [⟨x0, mk⟩] (some ⟨bl, 0, none⟩) 1 1 (fun _ => True) (fun _ => False) e46 e57 hS.2.2.1 (C_one_cellR (x := ⟨x0, mk⟩) hbl2) (fun y cs h => by rw [h]; exact k97_mkM _ _ _ y) (fun _ h => h.elim) (fun _ _ => trivial) hS.le (by have := HPL.out; omega) ?_
                intro v1 w1 h1 hg1 hat
                exact ⟨⟨Nat.le_trans hC.1 hg1.size, (hS.rowC hg1 h1).1.bel⟩, (fun b' h1 h2 => hg1.block b' h2 (GW.out b' h1).2.1), trivial, hS.rowC hg1 h1⟩
              case z8_3o14 =>
                intro vs w t hC ht1 ht2 hS hV
                rw [if_pos (by kernel_rfl)]
                generalize hρ : rho _ _ _ vs = ρ
                have e4 : ρ (.tmp 4) = .pointer (some ⟨g4, 0, none⟩) := by rw [← hρ]; kernel_rfl
                clear hρ hV
                refine runs_val (v := .pointer (some ⟨g4, 3, none⟩)) (w' := w) ?_ ⟨Below.refl _ _, rfl⟩
                clear ht1 ht2 hS hC
                go_simp <;> (first | exact IntWalk.u64_in _ (by omega) | exact IntWalk.u32_in _ (by omega) | exact IntWalk.u16_in _ (by omega) | exact IntWalk.u8_in _ (by omega) | exact IntWalk.i64_in _ (by omega) | skip)
              case z8_3o15 =>
                intro vs w hC hS hV
                replace hS : RSt B g4 w00 w tk hs vP' vC vP' (vs 13) (P ++ [b]) (R ++ [⟨x0, mk⟩]) := hS
                rw [if_pos (by kernel_rfl)]
                generalize hρ : rho _ _ _ vs = ρ
                have d59 : (vs 14) = .pointer (some ⟨g4, 3, none⟩) := hV 14 (by kernel_rfl)
                have e59 : ρ (.tmp 59) = vs 14 := by rw [← hρ]; kernel_rfl
                rw [d59] at e59; clear d59
                have d58 : (fun (w : World) (v : Value) => True) w (vs 13) := hV 13 (by kernel_rfl)
                have e58 : ρ (.tmp 58) = vs 13 := by rw [← hρ]; kernel_rfl
                clear hρ hV
                have hS2 := hS.setC
                obtain ⟨A5, c5, hs5⟩ := Kd.R_slice hS.2.2.1
                have f0 := blk_frozen (hS.1.get (i := 0) rfl) 3
                have c0 := RSt.cellC hS
                refine runs_skip (w' := w.setCell ⟨g4, 3, none⟩ (vs 13)) ?_ ⟨⟨Nat.le_trans hC.1 (by simp [World.setCell]), hS2.1.bel⟩, (fun b' h1 h2 => Below.heap_setCell _ _ _ _ (GW.out b' h1).2.2), trivial, ⟨_, hS2⟩⟩
                rw [hs5] at e58
                rw [hs5]
                clear hS hS2 hC d58 hs5
                go_simp
              case z8_3e =>
                intro vs w8 hC hS hV
                replace hS : (fun (w : World) => ∃ u, RSt B g4 w00 w tk hs vP' u vP' u (P ++ [b]) (R ++ [⟨x0, mk⟩])) w8 := hS
                have d45 : (vs 0) = .pointer (some ⟨g4, 3, none⟩) := hV 0 (Nat.le_of_ble_eq_true rfl)
                have d46 : (vs 1) = vC := hV 1 (Nat.le_of_ble_eq_true rfl)
                have d47 : (vs 2) = .slice (some a5) l c5 := hV 2 (Nat.le_of_ble_eq_true rfl)
                have d48 : (vs 3) = .slice A15 4 (c5 - 1) := hV 3 (Nat.le_of_ble_eq_true rfl)
                have d49 : (vs 4) = .int .u64 vv := hV 4 (Nat.le_of_ble_eq_true rfl)
                have d50 : (vs 5) = .int .u32 vv := hV 5 (Nat.le_of_ble_eq_true rfl)
                have d51 : (vs 6) = .int .i32 x0 := hV 6 (Nat.le_of_ble_eq_true rfl)
                have d52 : (vs 7) = .slice (some a5) l c5 := hV 7 (Nat.le_of_ble_eq_true rfl)
                have d53 : (vs 8) = .slice A59 4 (c5 - 5) := hV 8 (Nat.le_of_ble_eq_true rfl)
                have d54 : (vs 9) = .int .u64 mk := hV 9 (Nat.le_of_ble_eq_true rfl)
                have d55 : (vs 10) = .int .u32 mk := hV 10 (Nat.le_of_ble_eq_true rfl)
                have d56 : (vs 11) = .agg #[.int .i32 x0, .int .u32 mk] := hV 11 (Nat.le_of_ble_eq_true rfl)
                have d57 : (fun (w : World) (v : Value) => ∃ bl, v = .slice (some ⟨bl, 0, none⟩) 1 1 ∧ w7.heap.size ≤ bl ∧ w.heap[bl]? = some (.cells #[.int .i32 x0, .int .u32 mk] 97 (0, 0))) w8 (vs 12) := hV 12 (Nat.le_of_ble_eq_true rfl)
                have d58 : (fun (w : World) (v : Value) => True) w8 (vs 13) := hV 13 (Nat.le_of_ble_eq_true rfl)
                have d59 : (vs 14) = .pointer (some ⟨g4, 3, none⟩) := hV 14 (Nat.le_of_ble_eq_true rfl)
                clear hV
                simp only [putAll]
                rw [d45, d46, d47, d48, d49, d50, d51, d52, d53, d54, d55, d56, d59]
                clear d45 d46 d47 d48 d49 d50 d51 d52 d53 d54 d55 d56 d59
                generalize vs 12 = v57 at *
                generalize vs 13 = v58 at *
                generalize vs 15 = vN15
                clear vs
                simp only [Act.put, List.setIfInBounds_toArray, List.set_cons_zero, List.set_cons_succ]
                obtain ⟨vC', hS⟩ := hS
                have HE : Aside0 (RSt B g4 w00 w8 tk hs vP' vC' vP' vC' (pL (q.drop 9) (i + 1)) ((cL (q.drop 9) (i + 1)).map toR)) := ⟨by
                  rw [pL_succ, cL_succ, List.map_append, HPR.out.1, HPR.out.2, HROW.out, HRC.out]
                  exact hS⟩
                clear hS hC d57 d58 GW S1
                have o1 := O1.out
                have hl9 := HL9.out
                go_wp2_with fail
                go_roundw
                case rel => exact ⟨i + 1, by omega, l - 9, A90, c5 - 9, rfl, ⟨by have := H.out.1; have := HL9.out; omega, HCL.out.2.2, O2.out, _, _, HE.out⟩⟩
                case measure => simp only [lenV]; omega
          · obtain rfl : i = m := by omega
            have hl0 : l = 0 := by have := H.out.1; omega
            subst hl0
            obtain ⟨A1, c1, hv1, lc1, k1⟩ := Kd.R_reads hS.2.1
            obtain ⟨A2, c2, hv2, lc2, k2⟩ := Kd.R_reads hS.2.2.1
            have hDr : DrC wr tk hs (pL (q.drop 9) i) ((cL (q.drop 9) i).map toR) (.agg #[.int .u32 tk, .int .u32 hs, vP, vC]) := ⟨A1, c1, A2, c2, by rw [hv1, hv2], lc1, lc2, k1, k2⟩
            have HDR : Aside0 (RfR B wr tk hs (pL (q.drop 9) i) ((cL (q.drop 9) i).map toR) (.agg #[.int .u32 tk, .int .u32 hs, vP, vC])) := ⟨⟨A1, c1, A2, c2, by rw [hv1, hv2], lc1, lc2, by rw [← hv1]; exact hS.2.1, by rw [← hv2]; exact hS.2.2.1⟩⟩
            have KRT := Aside0.mk (rright_any tk hs _ _ _ wr hDr (pL_bytes (HBQ.out.drop 9) i) (by rw [pL_len]; have := HM.out; omega))
            have hok : okD q = rightB (pL (q.drop 9) i) ((cL (q.drop 9) i).map toR).length := by
              unfold okD rightB
              rw [HM.out.1, decide_eq_true (p := 9 ≤ q.length ∧ q.length = 9 + 9 * i) (by have := HQL.out; have := HNE.out; omega), List.length_map, pL_len, cL_len]
              simp
            obtain ⟨β, hβ⟩ : ∃ β, rightB (pL (q.drop 9) i) ((cL (q.drop 9) i).map toR).length = β := ⟨_, rfl⟩
            rw [hβ] at KRT hok
            have HOK := Aside0.mk hok
            have HP := Aside0.mk hS.1
            clear hS H k1 k2 lc1 lc2 hDr hok hβ S hlt hi
            subst hv1 hv2
            obtain ⟨pn, hpn⟩ : ∃ pn, (pL (q.drop 9) i).length = pn := ⟨_, rfl⟩
            obtain ⟨cn, hcn⟩ : ∃ cn, ((cL (q.drop 9) i).map toR).length = cn := ⟨_, rfl⟩
            rw [hpn, hcn] at HDR KRT HP
            clear hpn hcn
            go_wp2_with (first | (refine wpList_load_row_g 37 (.tmp 4) rfl g4 rfl rfl 37 _ (0, 0) _ (HP.out.get (i := 0) rfl) Try.underlying37 rfl (rdelta_info _ _ _ _) ?_))
            refine KRT.out.mono ?_
            rintro e w3 ⟨rfl, hb3⟩
            have HP3 := Aside0.mk (HP.out.call hb3)
            have HD3 := Aside0.mk (HDR.out.belowR hb3)
            clear hb3 HP HDR KRT
            have hzd := zero_rdelta
            cases β with
            | false =>
              go_wp2_with (first | (refine wpList_store_row rfl 37 (.tmp 2) (.tmp 63) rfl B #[.int .u32 0, .int .u32 0, .slice none 0 0, .slice none 0 0] rfl rfl 37 _ (HP3.out.get (i := 1) rfl) (rdelta_info _ _ _ _) rfl (by simp [Value.oneCell']) ?_))
              have H9 := Aside0.mk (HP3.out.setRow (i := 1) rfl #[.int .u32 0, .int .u32 0, .slice none 0 0, .slice none 0 0])
              refine bodyPost_ret (results_ct rfl _ _ B _ #[.int .u32 0, .int .u32 0, .slice none 0 0, .slice none 0 0] (0, 0) _ rfl (H9.out.get (i := 1) rfl) Try.underlying37 rfl (rdelta_info _ _ _ _)) rfl ?_
              refine ⟨?_, H9.out.bel⟩
              unfold RParseS
              rw [HOK.out]
              rfl
            | true =>
              go_wp2_with (first | (refine wpList_load_row_g 37 (.tmp 4) rfl g4 rfl rfl 37 _ (0, 0) _ (HP3.out.get (i := 0) rfl) Try.underlying37 rfl (rdelta_info _ _ _ _) ?_) | (refine wpList_store_row rfl 37 (.tmp 2) (.tmp 64) rfl B #[.int .u32 tk, .int .u32 hs, .slice A1 pn c1, .slice A2 cn c2] rfl rfl 37 _ (HP3.out.get (i := 1) rfl) (rdelta_info _ _ _ _) rfl (by simp [Value.oneCell']) ?_))
              have H9 := Aside0.mk (HP3.out.setRow (i := 1) rfl #[.int .u32 tk, .int .u32 hs, .slice A1 pn c1, .slice A2 cn c2])
              have HD9 := Aside0.mk (HD3.out.setRowB (h1 := by decide) (h2 := by decide) (hg := HP3.out.get (i := 1) rfl) (cs := #[.int .u32 tk, .int .u32 hs, .slice A1 pn c1, .slice A2 cn c2]))
              refine bodyPost_ret (results_ct rfl _ _ B _ #[.int .u32 tk, .int .u32 hs, .slice A1 pn c1, .slice A2 cn c2] (0, 0) _ rfl (H9.out.get (i := 1) rfl) Try.underlying37 rfl (rdelta_info _ _ _ _)) rfl ?_
              refine ⟨?_, H9.out.bel⟩
              unfold RParseS
              rw [HOK.out, if_pos rfl, HTH.out.1, HTH.out.2, HM.out.1]
              exact ⟨_, rfl, HD9.out⟩
    · have dne : decide ((n : Int) = 9 + 9 * m) = false := decide_eq_false (by omega)
      have dne2 : (n : Int) ≠ 9 + 9 * m := by omega
      have HOK : Aside0 (okD q = false) := ⟨by
        unfold okD
        rw [Bool.and_eq_false_iff]
        left
        rw [decide_eq_false_iff_not]
        have := HQL.out
        have := HM.out
        omega⟩
      go_wp2_with (first | (refine wpList_store_row rfl 37 (.tmp 2) (.tmp 20) rfl B #[.int .u32 0, .int .u32 0, .slice none 0 0, .slice none 0 0] rfl rfl 37 _ (H0.out.get (i := 0) rfl) (rdelta_info _ _ _ _) rfl (by simp [Value.oneCell']) ?_))
      have H9 := Aside0.mk (H0.out.setRow (i := 0) rfl #[.int .u32 0, .int .u32 0, .slice none 0 0, .slice none 0 0])
      refine bodyPost_ret (results_ct rfl _ _ B _ #[.int .u32 0, .int .u32 0, .slice none 0 0, .slice none 0 0] (0, 0) _ rfl (H9.out.get (i := 0) rfl) Try.underlying37 rfl (rdelta_info _ _ _ _)) rfl ?_
      refine ⟨?_, H9.out.bel⟩
      unfold RParseS
      rw [HOK.out]
      rfl
end Go.Proofs.Yticpjidcgaaldaa

namespace Go.Proofs.Yticpjidcgaaldaa
open Go.RowKit Go.Proofs.YticpjidcgaaldaaW.PrintWords Go.Proofs.YticpjidcgaaldaaW.PrintLast Go.Proofs.YticpjidcgaaldaaW.PrintMore
set_option linter.unusedVariables false
set_option linter.unusedSimpArgs false

theorem map_toR_nil {C : List S59} : C.map toR = [] ↔ C = [] := List.map_eq_nil_iff
set_option maxRecDepth 100000 in
set_option maxHeartbeats 16000000 in
theorem may_any (k t m tk hs : Int) (P : List Int) (C : List S59) (v : Value) (w00 : World) (hv : MrC w00 k t m tk hs P (C.map toR) v) (hk : OkM k t m tk hs P C) :
    Calls Try.prog 14 #[v] w00 fun e w' => e = .returned (.bool (rightM k t m tk hs P C)) ∧ Below w00.heap.size w00 w' := by
  obtain ⟨A, c, A2, c2, rfl, h2, h3, h4, h5⟩ := hv
  have HOK := Aside0.mk hk
  obtain ⟨n, hn⟩ : ∃ n, P.length = n := ⟨_, rfl⟩
  obtain ⟨nc, hnc⟩ : ∃ n, (C.map toR).length = n := ⟨_, rfl⟩
  have HD : Aside0 (∀ z, Below w00.heap.size w00 z → DrC z tk hs P (C.map toR) (.agg #[.int .u32 tk, .int .u32 hs, .slice A n c, .slice A2 nc c2])) := ⟨fun z hz => ⟨A, c, A2, c2, by rw [hn, hnc], h2, h3, Kd.C_below h4 hz, Kd.C_below h5 hz⟩⟩
  have HZ : Aside0 (∀ z, DrC z 0 0 [] [] (.agg #[.int .u32 0, .int .u32 0, .slice none 0 0, .slice none 0 0])) := ⟨fun z => ⟨none, 0, none, 0, rfl, Nat.le_refl _, Nat.le_refl _, Kd.C_nil _ _, Kd.C_nil _ _⟩⟩
  rw [hn, hnc]
  obtain ⟨B, hB⟩ : ∃ B, w00.heap.size = B := ⟨_, rfl⟩
  rw [hB] at HD
  have HB := Aside0.mk hB
  have H0 := Aside0.mk ((Hp.start w00).allocAt (.cells #[.int .u8 k, .int .u32 t, .int .u32 m, .int .u32 tk, .int .u32 hs, .slice A n c, .slice A2 nc c2] 39) B hB)
  rw [hB] at H0
  obtain ⟨ζ, hζ⟩ : ∃ ζ, isZ tk hs P C = ζ := ⟨_, rfl⟩
  obtain ⟨ρ, hρ⟩ : ∃ ρ, rightM k t m tk hs P C = ρ := ⟨_, rfl⟩
  have HR := Aside0.mk hρ
  rw [hρ]
  have KD := Aside0.mk (fun (z : World) (h : Below B w00 z) => rsame7G_any tk hs 0 0 P [] (C.map toR) [] _ _ z (HD.out z h) (HZ.out z) HOK.out.2.2.2.2.2.1 Bytes.nil (by rw [List.length_map]; have := HOK.out.2.2.2.2.2.2.2.2; omega) (by simp) ζ (by rw [← hζ, isZ_iff, map_toR_nil]))
  have HZE := Aside0.mk hζ
  have KR := Aside0.mk (fun (z : World) (h : Below B w00 z) => rright_any tk hs P (C.map toR) _ z (HD.out z h) HOK.out.2.2.2.2.2.1 (by have := HOK.out.2.2.2.2.2.2.2.1; omega))
  rw [List.length_map] at KR
  obtain ⟨β, hβ⟩ : ∃ β, rightB P C.length = β := ⟨_, rfl⟩
  rw [hβ] at KR
  have HBE := Aside0.mk hβ
  have hzd := zero_rdelta
  clear hk h2 h3 h4 h5 hn hnc hζ hρ hβ
  have c0 := blk_cell (H0.out.get (i := 0) rfl) 0
  have c1 := blk_cell (H0.out.get (i := 0) rfl) 1
  have c2' := blk_cell (H0.out.get (i := 0) rfl) 2
  have c3 := blk_cell (H0.out.get (i := 0) rfl) 3
  have c4 := blk_cell (H0.out.get (i := 0) rfl) 4
  have c5 := blk_cell (H0.out.get (i := 0) rfl) 5
  have c6 := blk_cell (H0.out.get (i := 0) rfl) 6
  go_enter Try.func14, Try.ntmps14
  go_wp2_with fail
  clear c0 c1 c2' c3 c4 c5 c6
  refine (KD.out _ H0.out.bel).mono ?_
  rintro e w1 ⟨rfl, hb1⟩
  have H1 := Aside0.mk (H0.out.call hb1)
  clear hb1 H0 KD
  have c0 := blk_cell (H1.out.get (i := 0) rfl) 0
  have c1 := blk_cell (H1.out.get (i := 0) rfl) 1
  have c2' := blk_cell (H1.out.get (i := 0) rfl) 2
  have c3 := blk_cell (H1.out.get (i := 0) rfl) 3
  have c4 := blk_cell (H1.out.get (i := 0) rfl) 4
  have c5 := blk_cell (H1.out.get (i := 0) rfl) 5
  have c6 := blk_cell (H1.out.get (i := 0) rfl) 6
  by_cases h1 : k = 1
  · subst h1
    cases ζ with
    | false =>
      have HRV : Aside0 (ρ = false) := ⟨by rw [← HR.out]; unfold rightM; rw [if_pos (by omega), HZE.out]; rfl⟩
      go_wp2_with fail
      go_ret
      rw [HB.out, HRV.out]
      exact ⟨rfl, H1.out.bel⟩
    | true =>
      by_cases ht : t = 0
      · subst ht
        by_cases hm : m = 0
        · subst hm
          have HRV : Aside0 (ρ = true) := ⟨by rw [← HR.out]; unfold rightM; rw [if_pos (by omega), HZE.out]; simp⟩
          go_wp2_with fail
          go_ret
          rw [HB.out, HRV.out]
          exact ⟨rfl, H1.out.bel⟩
        · have hm2 : (m == 0) = false := by simpa using hm
          have HRV : Aside0 (ρ = false) := ⟨by rw [← HR.out]; unfold rightM; rw [if_pos (by omega), HZE.out, decide_eq_false hm]; simp⟩
          go_wp2_with fail
          go_ret
          rw [HB.out, HRV.out]
          exact ⟨rfl, H1.out.bel⟩
      · have HRV : Aside0 (ρ = false) := ⟨by rw [← HR.out]; unfold rightM; rw [if_pos (by omega), HZE.out, decide_eq_false ht]; simp⟩
        go_wp2_with fail
        go_ret
        rw [HB.out, HRV.out]
        exact ⟨rfl, H1.out.bel⟩
  · skip
    by_cases h3 : k = 3
    · subst h3
      cases ζ with
      | false =>
        have HRV : Aside0 (ρ = false) := ⟨by rw [← HR.out]; unfold rightM; rw [if_pos (by omega), HZE.out]; rfl⟩
        go_wp2_with fail
        go_ret
        rw [HB.out, HRV.out]
        exact ⟨rfl, H1.out.bel⟩
      | true =>
        by_cases ht : t = 0
        · subst ht
          by_cases hm : m = 0
          · subst hm
            have HRV : Aside0 (ρ = true) := ⟨by rw [← HR.out]; unfold rightM; rw [if_pos (by omega), HZE.out]; simp⟩
            go_wp2_with fail
            go_ret
            rw [HB.out, HRV.out]
            exact ⟨rfl, H1.out.bel⟩
          · have hm2 : (m == 0) = false := by simpa using hm
            have HRV : Aside0 (ρ = false) := ⟨by rw [← HR.out]; unfold rightM; rw [if_pos (by omega), HZE.out, decide_eq_false hm]; simp⟩
            go_wp2_with fail
            go_ret
            rw [HB.out, HRV.out]
            exact ⟨rfl, H1.out.bel⟩
        · have HRV : Aside0 (ρ = false) := ⟨by rw [← HR.out]; unfold rightM; rw [if_pos (by omega), HZE.out, decide_eq_false ht]; simp⟩
          go_wp2_with fail
          go_ret
          rw [HB.out, HRV.out]
          exact ⟨rfl, H1.out.bel⟩
    · skip
      by_cases h4 : k = 4
      · subst h4
        cases ζ with
        | false =>
          have HRV : Aside0 (ρ = false) := ⟨by rw [← HR.out]; unfold rightM; rw [if_pos (by omega), HZE.out]; rfl⟩
          go_wp2_with fail
          go_ret
          rw [HB.out, HRV.out]
          exact ⟨rfl, H1.out.bel⟩
        | true =>
          by_cases ht : t = 0
          · subst ht
            by_cases hm : m = 0
            · subst hm
              have HRV : Aside0 (ρ = true) := ⟨by rw [← HR.out]; unfold rightM; rw [if_pos (by omega), HZE.out]; simp⟩
              go_wp2_with fail
              go_ret
              rw [HB.out, HRV.out]
              exact ⟨rfl, H1.out.bel⟩
            · have hm2 : (m == 0) = false := by simpa using hm
              have HRV : Aside0 (ρ = false) := ⟨by rw [← HR.out]; unfold rightM; rw [if_pos (by omega), HZE.out, decide_eq_false hm]; simp⟩
              go_wp2_with fail
              go_ret
              rw [HB.out, HRV.out]
              exact ⟨rfl, H1.out.bel⟩
          · have HRV : Aside0 (ρ = false) := ⟨by rw [← HR.out]; unfold rightM; rw [if_pos (by omega), HZE.out, decide_eq_false ht]; simp⟩
            go_wp2_with fail
            go_ret
            rw [HB.out, HRV.out]
            exact ⟨rfl, H1.out.bel⟩
      · skip
        by_cases h2 : k = 2
        · subst h2
          have HRV : Aside0 (ρ = ζ) := ⟨by rw [← HR.out]; unfold rightM; rw [if_neg (by omega), if_pos rfl]; exact HZE.out⟩
          go_wp2_with fail
          go_ret
          rw [HB.out, HRV.out]
          exact ⟨rfl, H1.out.bel⟩
        · skip
          by_cases h5 : k = 5
          · subst h5
            by_cases hm : m = 0
            · subst hm
              by_cases ht : t = tk
              · subst ht
                clear HZE
                go_wp2_with fail
                refine (KR.out _ H1.out.bel).mono ?_
                rintro e w2 ⟨rfl, hb2⟩
                have H2 := Aside0.mk (H1.out.call hb2)
                clear hb2 H1 c0 c1 c2' c3 c4 c5 c6
                have HRV : Aside0 (ρ = β) := ⟨by rw [← HR.out]; unfold rightM; rw [if_neg (by omega), if_neg (by omega), if_pos (by omega), HBE.out]; simp⟩
                go_wp2_with fail
                go_ret
                rw [HB.out, HRV.out]
                exact ⟨rfl, H2.out.bel⟩
              · have ht2 : ¬ tk = t := fun e => ht e.symm
                have HRV : Aside0 (ρ = false) := ⟨by rw [← HR.out]; unfold rightM; rw [if_neg (by omega), if_neg (by omega), if_pos (by omega), decide_eq_false ht2]; simp⟩
                go_wp2_with fail
                go_ret
                rw [HB.out, HRV.out]
                exact ⟨rfl, H1.out.bel⟩
            · have HRV : Aside0 (ρ = false) := ⟨by rw [← HR.out]; unfold rightM; rw [if_neg (by omega), if_neg (by omega), if_pos (by omega), decide_eq_false hm]; simp⟩
              go_wp2_with fail
              go_ret
              rw [HB.out, HRV.out]
              exact ⟨rfl, H1.out.bel⟩
          · skip
            by_cases h6 : k = 6
            · subst h6
              by_cases hm : m = 0
              · subst hm
                by_cases ht : t = tk
                · subst ht
                  clear HZE
                  go_wp2_with fail
                  refine (KR.out _ H1.out.bel).mono ?_
                  rintro e w2 ⟨rfl, hb2⟩
                  have H2 := Aside0.mk (H1.out.call hb2)
                  clear hb2 H1 c0 c1 c2' c3 c4 c5 c6
                  have HRV : Aside0 (ρ = β) := ⟨by rw [← HR.out]; unfold rightM; rw [if_neg (by omega), if_neg (by omega), if_pos (by omega), HBE.out]; simp⟩
                  go_wp2_with fail
                  go_ret
                  rw [HB.out, HRV.out]
                  exact ⟨rfl, H2.out.bel⟩
                · have ht2 : ¬ tk = t := fun e => ht e.symm
                  have HRV : Aside0 (ρ = false) := ⟨by rw [← HR.out]; unfold rightM; rw [if_neg (by omega), if_neg (by omega), if_pos (by omega), decide_eq_false ht2]; simp⟩
                  go_wp2_with fail
                  go_ret
                  rw [HB.out, HRV.out]
                  exact ⟨rfl, H1.out.bel⟩
              · have HRV : Aside0 (ρ = false) := ⟨by rw [← HR.out]; unfold rightM; rw [if_neg (by omega), if_neg (by omega), if_pos (by omega), decide_eq_false hm]; simp⟩
                go_wp2_with fail
                go_ret
                rw [HB.out, HRV.out]
                exact ⟨rfl, H1.out.bel⟩
            · skip
              have HRV : Aside0 (ρ = false) := ⟨by rw [← HR.out]; unfold rightM; rw [if_neg (by omega), if_neg (by omega), if_neg (by omega)]⟩
              go_wp2_with fail
              go_ret
              rw [HB.out, HRV.out]
              exact ⟨rfl, H1.out.bel⟩
set_option maxRecDepth 100000 in
set_option maxHeartbeats 16000000 in
theorem say_any (k t m tk hs : Int) (P : List Int) (C : List S59) (v : Value) (w00 : World) (hv : MrC w00 k t m tk hs P (C.map toR) v) (hk : OkM k t m tk hs P C) (hr : rightM k t m tk hs P C = true) :
    Calls Try.prog 19 #[v] w00 fun e w' => ∃ v', e = .returned v' ∧ BvC w' (mSay k t m tk hs P C) v' ∧ Below w00.heap.size w00 w' := by
  obtain ⟨A, c, A2, c2, rfl, h2, h3, h4, h5⟩ := hv
  obtain ⟨n, hn⟩ : ∃ n, P.length = n := ⟨_, rfl⟩
  obtain ⟨nc, hnc⟩ : ∃ n, (C.map toR).length = n := ⟨_, rfl⟩
  have HD : Aside0 (∀ z, Below w00.heap.size w00 z → DrC z tk hs P (C.map toR) (.agg #[.int .u32 tk, .int .u32 hs, .slice A n c, .slice A2 nc c2])) := ⟨fun z hz => ⟨A, c, A2, c2, by rw [hn, hnc], h2, h3, Kd.C_below h4 hz, Kd.C_below h5 hz⟩⟩
  rw [hn, hnc]
  clear h2 h3 h4 h5 hn hnc
  have HOK := Aside0.mk hk
  obtain ⟨tn, rfl⟩ : ∃ x : Nat, t = (x : Int) := ⟨t.toNat, by have := hk.2.1; omega⟩
  obtain ⟨mn, rfl⟩ : ∃ x : Nat, m = (x : Int) := ⟨m.toNat, by have := hk.2.2.1; omega⟩
  obtain ⟨tkn, rfl⟩ : ∃ x : Nat, tk = (x : Int) := ⟨tk.toNat, by have := hk.2.2.2.1; omega⟩
  obtain ⟨hsn, rfl⟩ : ∃ x : Nat, hs = (x : Int) := ⟨hs.toNat, by have := hk.2.2.2.2.1; omega⟩
  have HTM : Aside0 (tn < 4294967296 ∧ mn < 4294967296 ∧ tkn < 4294967296 ∧ hsn < 4294967296) := ⟨by have := hk.2.1; omega, by have := hk.2.2.1; omega, by have := hk.2.2.2.1; omega, by have := hk.2.2.2.2.1; omega⟩
  have hk0 := hk.1.1
  have hk1 := hk.1.2
  have HRM := Aside0.mk hr
  obtain ⟨S, hS⟩ : ∃ S, mSay k tn mn tkn hsn P C = S := ⟨_, rfl⟩
  have HS := Aside0.mk hS
  rw [hS]
  clear hk hr hS
  obtain ⟨B, hB⟩ : ∃ B, w00.heap.size = B := ⟨_, rfl⟩
  rw [hB] at HD
  have HB := Aside0.mk hB
  have H0 := Aside0.mk ((Hp.start w00).allocAt (.cells #[.int .u8 k, .int .u32 tn, .int .u32 mn, .int .u32 tkn, .int .u32 hsn, .slice A n c, .slice A2 nc c2] 39) B hB)
  rw [hB] at H0
  have c0 := blk_cell (H0.out.get (i := 0) rfl) 0
  go_enter Try.func19, Try.ntmps19
  by_cases h2 : k = 2
  · subst h2
    have HE : Aside0 (S = [2] ++ lowN tn 4 ++ lowN mn 4) := ⟨by rw [← HS.out]; unfold mSay; rw [if_pos rfl]; rfl⟩
    go_wp2_with fail
    generalize w00.alloc (.cells #[.int .u8 2, .int .u32 tn, .int .u32 mn, .int .u32 tkn, .int .u32 hsn, .slice A n c, .slice A2 nc c2] 39) = W at *
    have HLG : Aside0 (∀ z, Below W.heap.size W z → z.heap[B]? = some (.cells #[.int .u8 2, .int .u32 tn, .int .u32 mn, .int .u32 tkn, .int .u32 hsn, .slice A n c, .slice A2 nc c2] 39 (0, 0))) := ⟨fun z hz => (hz.block B (H0.out.lt (i := 0) rfl)).trans (H0.out.get (i := 0) rfl)⟩
    have HW0 : Aside0 (∀ z, Below W.heap.size W z → Below B w00 z) := ⟨fun z hz => H0.out.bel.trans (hz.mono H0.out.le)⟩
    clear hB c0
    refine region_grown (W := W)
      [fun (w : World) (v : Value) => ∃ A, v = .slice A 1 1 ∧ (Kd.int .u8).C w A 1 [2],
       fun (w : World) (v : Value) => v = .pointer (some ⟨B, 1, none⟩),
       fun (w : World) (v : Value) => v = .int .u32 tn,
       fun (w : World) (v : Value) => v = .int .u64 tn,
       fun (w : World) (v : Value) => ∃ A c, v = .slice A 4 c ∧ 4 ≤ c ∧ (Kd.int .u8).C w A 4 (lowN tn 4),
       fun (w : World) (v : Value) => v = .pointer (some ⟨B, 2, none⟩),
       fun (w : World) (v : Value) => v = .int .u32 mn,
       fun (w : World) (v : Value) => v = .int .u64 mn,
       fun (w : World) (v : Value) => ∃ A c, v = .slice A 4 c ∧ 4 ≤ c ∧ (Kd.int .u8).C w A 4 (lowN mn 4),
       fun (w : World) (v : Value) => ∃ A, v = .slice A 3 3 ∧ (Kd.slice 5 (Kd.int .u8)).C w A 3 [[2], lowN tn 4, lowN mn 4],
       fun (w : World) (v : Value) => BvC w S v,
       fun (w : World) (v : Value) => BvC w S v]
      (fun j =>  none)
      [(0, some 7), (1, some 8), (2, some 9), (3, some 10), (4, some 11), (5, some 12), (6, some 13), (7, some 14), (8, some 15), (9, some 16), (10, some 17), (11, some 2)]
      []
      (by kernel_rfl) (by kernel_rfl) (by kernel_rfl) (by kernel_rfl) ?r3_1g ?r3_1s ⟨?r3_1o0, ?r3_1o1, ?r3_1o2, ?r3_1o3, ?r3_1o4, ?r3_1o5, ?r3_1o6, ?r3_1o7, ?r3_1o8, ?r3_1o9, ?r3_1o10, ?r3_1o11, trivial⟩ ?r3_1e
    case r3_1g =>
      intro j hj; cases hj
    case r3_1s =>
      refine ⟨(fun w w' v hb h => let ⟨A, h1, h2⟩ := h; ⟨A, h1, Kd.C_below h2 hb⟩), (fun w w' v hb h => h), (fun w w' v hb h => h), (fun w w' v hb h => h), (fun w w' v hb h => let ⟨A, c, h1, h2, h3⟩ := h; ⟨A, c, h1, h2, Kd.C_below h3 hb⟩), (fun w w' v hb h => h), (fun w w' v hb h => h), (fun w w' v hb h => h), (fun w w' v hb h => let ⟨A, c, h1, h2, h3⟩ := h; ⟨A, c, h1, h2, Kd.C_below h3 hb⟩), (fun w w' v hb h => let ⟨A, h1, h2⟩ := h; ⟨A, h1, Kd.C_below h2 hb⟩), (fun w w' v hb h => h.below hb), (fun w w' v hb h => h.below hb), trivial⟩
    case r3_1o0 =>
      intro vs w hb hV
      rw [if_pos (by first | kernel_rfl | rfl)]
      generalize hρ : rho _ _ _ vs = ρ
      have econ : ∀ v : Value, ρ (.const v) = v := fun v => by rw [← hρ]; rfl
      clear hρ hV
      refine runs_val (v := .slice (some ⟨w.heap.size, 0, none⟩) 1 1) (w' := w.alloc (.cells #[.int .u8 2] 5)) ?_ ⟨below_alloc (Below.refl _ _) _, _, rfl, C_of_block (heap_alloc_new _ _) ⟨rfl, rfl, by omega⟩⟩
      go_simp
    case r3_1o1 =>
      intro vs w hb hV
      rw [if_pos (by first | kernel_rfl | rfl)]
      generalize hρ : rho _ _ _ vs = ρ
      have e1 : ρ (.tmp 1) = .pointer (some ⟨B, 0, none⟩) := by rw [← hρ]; kernel_rfl
      clear hρ hV
      refine runs_val (v := .pointer (some ⟨B, 1, none⟩)) (w' := w) ?_ ⟨Below.refl _ _, rfl⟩
      go_simp <;> (first | exact IntWalk.u64_in _ (by omega) | exact IntWalk.u32_in _ (by omega) | exact IntWalk.u16_in _ (by omega) | exact IntWalk.u8_in _ (by omega) | exact IntWalk.i64_in _ (by omega) | skip)
    case r3_1o2 =>
      intro vs w hb hV
      rw [if_pos (by first | kernel_rfl | rfl)]
      generalize hρ : rho _ _ _ vs = ρ
      have d8 : (vs 1) = .pointer (some ⟨B, 1, none⟩) := hV 1 (by first | kernel_rfl | rfl)
      have e8 : ρ (.tmp 8) = vs 1 := by rw [← hρ]; kernel_rfl
      rw [d8] at e8; clear d8
      clear hρ hV
      have c0 := blk_cell (HLG.out w hb) 1
      refine runs_val (v := .int .u32 tn) (w' := w) ?_ ⟨Below.refl _ _, rfl⟩
      go_simp
    case r3_1o3 =>
      intro vs w hb hV
      rw [if_pos (by first | kernel_rfl | rfl)]
      generalize hρ : rho _ _ _ vs = ρ
      have d9 : (vs 2) = .int .u32 tn := hV 2 (by first | kernel_rfl | rfl)
      have e9 : ρ (.tmp 9) = vs 2 := by rw [← hρ]; kernel_rfl
      rw [d9] at e9; clear d9
      clear hρ hV
      have hx := HTM.out
      refine runs_val (v := .int .u64 tn) (w' := w) ?_ ⟨Below.refl _ _, rfl⟩
      go_simp
      try exact IntWalk.u64_in _ (by omega)
    case r3_1o4 =>
      intro vs w hb hV
      rw [if_pos (by first | kernel_rfl | rfl)]
      generalize hρ : rho _ _ _ vs = ρ
      have d10 : (vs 3) = .int .u64 tn := hV 3 (by first | kernel_rfl | rfl)
      have e10 : ρ (.tmp 10) = vs 3 := by rw [← hρ]; kernel_rfl
      rw [d10] at e10; clear d10
      have ef48 : ρ (.func 48) = .func (.func 48) #[] #[] := by rw [← hρ]; rfl
      have econ : ∀ v : Value, ρ (.const v) = v := fun v => by rw [← hρ]; rfl
      clear hρ hV
      have hx := HTM.out
      refine runs_call (f := 48) (args := #[.int .u64 tn, .int .i64 4]) (w' := w) ?_ ?_
      · go_simp
      · refine (low_any tn 4 w (by omega) (by omega)).mono ?_
        rintro e w5 ⟨v, rfl, hv, hb5⟩
        obtain ⟨A1, c1, e1, e2, e3⟩ := Kd.R_reads hv
        rw [lowN_length] at e1 e2 e3
        exact ⟨_, rfl, hb5, A1, c1, e1, e2, e3⟩
    case r3_1o5 =>
      intro vs w hb hV
      rw [if_pos (by first | kernel_rfl | rfl)]
      generalize hρ : rho _ _ _ vs = ρ
      have e1 : ρ (.tmp 1) = .pointer (some ⟨B, 0, none⟩) := by rw [← hρ]; kernel_rfl
      clear hρ hV
      refine runs_val (v := .pointer (some ⟨B, 2, none⟩)) (w' := w) ?_ ⟨Below.refl _ _, rfl⟩
      go_simp <;> (first | exact IntWalk.u64_in _ (by omega) | exact IntWalk.u32_in _ (by omega) | exact IntWalk.u16_in _ (by omega) | exact IntWalk.u8_in _ (by omega) | exact IntWalk.i64_in _ (by omega) | skip)
    case r3_1o6 =>
      intro vs w hb hV
      rw [if_pos (by first | kernel_rfl | rfl)]
      generalize hρ : rho _ _ _ vs = ρ
      have d12 : (vs 5) = .pointer (some ⟨B, 2, none⟩) := hV 5 (by first | kernel_rfl | rfl)
      have e12 : ρ (.tmp 12) = vs 5 := by rw [← hρ]; kernel_rfl
      rw [d12] at e12; clear d12
      clear hρ hV
      have c0 := blk_cell (HLG.out w hb) 2
      refine runs_val (v := .int .u32 mn) (w' := w) ?_ ⟨Below.refl _ _, rfl⟩
      go_simp
    case r3_1o7 =>
      intro vs w hb hV
      rw [if_pos (by first | kernel_rfl | rfl)]
      generalize hρ : rho _ _ _ vs = ρ
      have d13 : (vs 6) = .int .u32 mn := hV 6 (by first | kernel_rfl | rfl)
      have e13 : ρ (.tmp 13) = vs 6 := by rw [← hρ]; kernel_rfl
      rw [d13] at e13; clear d13
      clear hρ hV
      have hx := HTM.out
      refine runs_val (v := .int .u64 mn) (w' := w) ?_ ⟨Below.refl _ _, rfl⟩
      go_simp
      try exact IntWalk.u64_in _ (by omega)
    case r3_1o8 =>
      intro vs w hb hV
      rw [if_pos (by first | kernel_rfl | rfl)]
      generalize hρ : rho _ _ _ vs = ρ
      have d14 : (vs 7) = .int .u64 mn := hV 7 (by first | kernel_rfl | rfl)
      have e14 : ρ (.tmp 14) = vs 7 := by rw [← hρ]; kernel_rfl
      rw [d14] at e14; clear d14
      have ef48 : ρ (.func 48) = .func (.func 48) #[] #[] := by rw [← hρ]; rfl
      have econ : ∀ v : Value, ρ (.const v) = v := fun v => by rw [← hρ]; rfl
      clear hρ hV
      have hx := HTM.out
      refine runs_call (f := 48) (args := #[.int .u64 mn, .int .i64 4]) (w' := w) ?_ ?_
      · go_simp
      · refine (low_any mn 4 w (by omega) (by omega)).mono ?_
        rintro e w5 ⟨v, rfl, hv, hb5⟩
        obtain ⟨A1, c1, e1, e2, e3⟩ := Kd.R_reads hv
        rw [lowN_length] at e1 e2 e3
        exact ⟨_, rfl, hb5, A1, c1, e1, e2, e3⟩
    case r3_1o9 =>
      intro vs w hb hV
      rw [if_pos (by first | kernel_rfl | rfl)]
      generalize hρ : rho _ _ _ vs = ρ
      have d7 : (fun (w : World) (v : Value) => ∃ A, v = .slice A 1 1 ∧ (Kd.int .u8).C w A 1 [2]) w (vs 0) := hV 0 (by first | kernel_rfl | rfl)
      have e7 : ρ (.tmp 7) = vs 0 := by rw [← hρ]; kernel_rfl
      obtain ⟨B1, h1, hC1⟩ := d7
      have d11 : (fun (w : World) (v : Value) => ∃ A c, v = .slice A 4 c ∧ 4 ≤ c ∧ (Kd.int .u8).C w A 4 (lowN tn 4)) w (vs 4) := hV 4 (by first | kernel_rfl | rfl)
      have e11 : ρ (.tmp 11) = vs 4 := by rw [← hρ]; kernel_rfl
      obtain ⟨B2, b2, h2, hb2, hC2⟩ := d11
      have d15 : (fun (w : World) (v : Value) => ∃ A c, v = .slice A 4 c ∧ 4 ≤ c ∧ (Kd.int .u8).C w A 4 (lowN mn 4)) w (vs 8) := hV 8 (by first | kernel_rfl | rfl)
      have e15 : ρ (.tmp 15) = vs 8 := by rw [← hρ]; kernel_rfl
      obtain ⟨B3, b3, h3, hb3, hC3⟩ := d15
      clear hρ hV
      rw [h1] at e7
      rw [h2] at e11
      rw [h3] at e15
      refine runs_val (v := .slice (some ⟨w.heap.size, 0, none⟩) 3 3) (w' := w.alloc (.cells #[.slice B1 1 1, .slice B2 4 b2, .slice B3 4 b3] 23)) ?_ ⟨below_alloc (Below.refl _ _) _, _, rfl, C_of_three (heap_alloc_new _ _) (Kd.C_alloc hC1 _) (by omega) (Kd.C_alloc hC2 _) hb2 (Kd.C_alloc hC3 _) hb3⟩
      go_simp
    case r3_1o10 =>
      intro vs w hb hV
      rw [if_pos (by first | kernel_rfl | rfl)]
      generalize hρ : rho _ _ _ vs = ρ
      have d16 : (fun (w : World) (v : Value) => ∃ A, v = .slice A 3 3 ∧ (Kd.slice 5 (Kd.int .u8)).C w A 3 [[2], lowN tn 4, lowN mn 4]) w (vs 9) := hV 9 (by first | kernel_rfl | rfl)
      have e16 : ρ (.tmp 16) = vs 9 := by rw [← hρ]; kernel_rfl
      obtain ⟨B4, h4, hC4⟩ := d16
      have ef21 : ρ (.func 21) = .func (.func 21) #[] #[] := by rw [← hρ]; rfl
      clear hρ hV
      rw [h4] at e16
      refine runs_call (f := 21) (args := #[.slice B4 3 3]) (w' := w) ?_ ?_
      · go_simp
      · have he : [[2], lowN tn 4, lowN mn 4].flatten = S := by rw [HE.out]; simp
        refine (join_any B4 3 3 _ w hC4 (by omega) (by rw [he, HE.out]; simp only [List.length_append, lowN_length, List.length_cons, List.length_nil]; omega)).mono ?_
        rintro e w5 ⟨v, rfl, hv, hb5⟩
        rw [he] at hv
        exact ⟨_, rfl, hb5, BvC.of_R hv⟩
    case r3_1o11 =>
      intro vs w hb hV
      rw [if_pos (by first | kernel_rfl | rfl)]
      generalize hρ : rho _ _ _ vs = ρ
      have d17 : (fun (w : World) (v : Value) => BvC w S v) w (vs 10) := hV 10 (by first | kernel_rfl | rfl)
      have e17 : ρ (.tmp 17) = vs 10 := by rw [← hρ]; kernel_rfl
      clear hρ hV
      refine runs_val (v := vs 10) (w' := w) ?_ ⟨Below.refl _ _, d17⟩
      go_simp
    case r3_1e =>
      intro vs W2 hb2 hV
      have d7 : (fun (w : World) (v : Value) => ∃ A, v = .slice A 1 1 ∧ (Kd.int .u8).C w A 1 [2]) W2 (vs 0) := hV 0 (Nat.le_of_ble_eq_true rfl)
      have d8 : (vs 1) = .pointer (some ⟨B, 1, none⟩) := hV 1 (Nat.le_of_ble_eq_true rfl)
      have d9 : (vs 2) = .int .u32 tn := hV 2 (Nat.le_of_ble_eq_true rfl)
      have d10 : (vs 3) = .int .u64 tn := hV 3 (Nat.le_of_ble_eq_true rfl)
      have d11 : (fun (w : World) (v : Value) => ∃ A c, v = .slice A 4 c ∧ 4 ≤ c ∧ (Kd.int .u8).C w A 4 (lowN tn 4)) W2 (vs 4) := hV 4 (Nat.le_of_ble_eq_true rfl)
      have d12 : (vs 5) = .pointer (some ⟨B, 2, none⟩) := hV 5 (Nat.le_of_ble_eq_true rfl)
      have d13 : (vs 6) = .int .u32 mn := hV 6 (Nat.le_of_ble_eq_true rfl)
      have d14 : (vs 7) = .int .u64 mn := hV 7 (Nat.le_of_ble_eq_true rfl)
      have d15 : (fun (w : World) (v : Value) => ∃ A c, v = .slice A 4 c ∧ 4 ≤ c ∧ (Kd.int .u8).C w A 4 (lowN mn 4)) W2 (vs 8) := hV 8 (Nat.le_of_ble_eq_true rfl)
      have d16 : (fun (w : World) (v : Value) => ∃ A, v = .slice A 3 3 ∧ (Kd.slice 5 (Kd.int .u8)).C w A 3 [[2], lowN tn 4, lowN mn 4]) W2 (vs 9) := hV 9 (Nat.le_of_ble_eq_true rfl)
      have d17 : (fun (w : World) (v : Value) => BvC w S v) W2 (vs 10) := hV 10 (Nat.le_of_ble_eq_true rfl)
      have d2 : (fun (w : World) (v : Value) => BvC w S v) W2 (vs 11) := hV 11 (Nat.le_of_ble_eq_true rfl)
      clear hV
      simp only [putAll]
      rw [d8, d9, d10, d12, d13, d14]
      clear d8 d9 d10 d12 d13 d14
      generalize vs 0 = v7 at *
      generalize vs 4 = v11 at *
      generalize vs 8 = v15 at *
      generalize vs 9 = v16 at *
      generalize vs 10 = v17 at *
      generalize vs 11 = v2 at *
      clear vs
      simp only [Act.put, List.setIfInBounds_toArray, List.set_cons_zero, List.set_cons_succ]
      have HB2 := Aside0.mk (HW0.out _ hb2)
      have HV2 := Aside0.mk d2
      obtain ⟨A5, c5, q5, hc5, hC5⟩ := d2
      clear d7 d11 d15 d16 d17 hb2
      subst q5
      go_wp2_with fail
      go_ret
      rw [HB.out]
      exact ⟨_, rfl, HV2.out, HB2.out⟩
  · skip
    by_cases h5 : k = 5
    · subst h5
      have HRB : Aside0 (rightB P C.length = true) := ⟨by
        have h := HRM.out
        unfold rightM at h
        rw [if_neg (by omega), if_neg (by omega), if_pos (by omega)] at h
        simp only [Bool.and_eq_true] at h
        exact h.2.2⟩
      have HE : Aside0 (S = [5] ++ dBytes tkn hsn P C) := ⟨by rw [← HS.out]; unfold mSay; rw [if_neg (by omega), if_pos (by omega)]; unfold pbD; rw [Int.toNat_natCast, Int.toNat_natCast, HRB.out, if_pos rfl]⟩
      have HSL : Aside0 (S.length ≤ 1000000) := ⟨by rw [HE.out]; have h1 := pbD_le tkn hsn P C; unfold pbD at h1; rw [if_pos HRB.out] at h1; have := HOK.out.2.2.2.2.2.2.2.1; rw [List.length_append]; simp only [List.length_cons, List.length_nil]; omega⟩
      go_wp2_with fail
      generalize w00.alloc (.cells #[.int .u8 5, .int .u32 tn, .int .u32 mn, .int .u32 tkn, .int .u32 hsn, .slice A n c, .slice A2 nc c2] 39) = W at *
      have HLG : Aside0 (∀ z, Below W.heap.size W z → z.heap[B]? = some (.cells #[.int .u8 5, .int .u32 tn, .int .u32 mn, .int .u32 tkn, .int .u32 hsn, .slice A n c, .slice A2 nc c2] 39 (0, 0))) := ⟨fun z hz => (hz.block B (H0.out.lt (i := 0) rfl)).trans (H0.out.get (i := 0) rfl)⟩
      have HW0 : Aside0 (∀ z, Below W.heap.size W z → Below B w00 z) := ⟨fun z hz => H0.out.bel.trans (hz.mono H0.out.le)⟩
      clear hB c0
      refine region_grown (W := W)
        [fun (w : World) (v : Value) => v = .pointer (some ⟨B, 0, none⟩),
         fun (w : World) (v : Value) => v = .int .u8 5,
         fun (w : World) (v : Value) => ∃ A, v = .slice A 1 1 ∧ (Kd.int .u8).C w A 1 [5],
         fun (w : World) (v : Value) => v = .pointer (some ⟨B, 3, none⟩),
         fun (w : World) (v : Value) => v = .agg #[.int .u32 tkn, .int .u32 hsn, .slice A n c, .slice A2 nc c2],
         fun (w : World) (v : Value) => BvC w (dBytes tkn hsn P C) v,
         fun (w : World) (v : Value) => ∃ A, v = .slice A 2 2 ∧ (Kd.slice 5 (Kd.int .u8)).C w A 2 [[5], dBytes tkn hsn P C],
         fun (w : World) (v : Value) => BvC w S v,
         fun (w : World) (v : Value) => BvC w S v]
        (fun j =>  none)
        [(0, some 21), (1, some 22), (2, some 23), (3, some 24), (4, some 25), (5, some 26), (6, some 27), (7, some 28), (8, some 2)]
        []
        (by kernel_rfl) (by kernel_rfl) (by kernel_rfl) (by kernel_rfl) ?r6_2g ?r6_2s ⟨?r6_2o0, ?r6_2o1, ?r6_2o2, ?r6_2o3, ?r6_2o4, ?r6_2o5, ?r6_2o6, ?r6_2o7, ?r6_2o8, trivial⟩ ?r6_2e
      case r6_2g =>
        intro j hj; cases hj
      case r6_2s =>
        refine ⟨(fun w w' v hb h => h), (fun w w' v hb h => h), (fun w w' v hb h => let ⟨A, h1, h2⟩ := h; ⟨A, h1, Kd.C_below h2 hb⟩), (fun w w' v hb h => h), (fun w w' v hb h => h), (fun w w' v hb h => h.below hb), (fun w w' v hb h => let ⟨A, h1, h2⟩ := h; ⟨A, h1, Kd.C_below h2 hb⟩), (fun w w' v hb h => h.below hb), (fun w w' v hb h => h.below hb), trivial⟩
      case r6_2o0 =>
        intro vs w hb hV
        rw [if_pos (by first | kernel_rfl | rfl)]
        generalize hρ : rho _ _ _ vs = ρ
        have e1 : ρ (.tmp 1) = .pointer (some ⟨B, 0, none⟩) := by rw [← hρ]; kernel_rfl
        clear hρ hV
        refine runs_val (v := .pointer (some ⟨B, 0, none⟩)) (w' := w) ?_ ⟨Below.refl _ _, rfl⟩
        go_simp <;> (first | exact IntWalk.u64_in _ (by omega) | exact IntWalk.u32_in _ (by omega) | exact IntWalk.u16_in _ (by omega) | exact IntWalk.u8_in _ (by omega) | exact IntWalk.i64_in _ (by omega) | skip)
      case r6_2o1 =>
        intro vs w hb hV
        rw [if_pos (by first | kernel_rfl | rfl)]
        generalize hρ : rho _ _ _ vs = ρ
        have d21 : (vs 0) = .pointer (some ⟨B, 0, none⟩) := hV 0 (by first | kernel_rfl | rfl)
        have e21 : ρ (.tmp 21) = vs 0 := by rw [← hρ]; kernel_rfl
        rw [d21] at e21; clear d21
        clear hρ hV
        have c0 := blk_cell (HLG.out w hb) 0
        refine runs_val (v := .int .u8 5) (w' := w) ?_ ⟨Below.refl _ _, rfl⟩
        go_simp
      case r6_2o2 =>
        intro vs w hb hV
        rw [if_pos (by first | kernel_rfl | rfl)]
        generalize hρ : rho _ _ _ vs = ρ
        have d22 : (vs 1) = .int .u8 5 := hV 1 (by first | kernel_rfl | rfl)
        have e22 : ρ (.tmp 22) = vs 1 := by rw [← hρ]; kernel_rfl
        rw [d22] at e22; clear d22
        clear hρ hV
        refine runs_val (v := .slice (some ⟨w.heap.size, 0, none⟩) 1 1) (w' := w.alloc (.cells #[.int .u8 5] 5)) ?_ ⟨below_alloc (Below.refl _ _) _, _, rfl, C_of_block (heap_alloc_new _ _) ⟨rfl, rfl, by omega⟩⟩
        go_simp
      case r6_2o3 =>
        intro vs w hb hV
        rw [if_pos (by first | kernel_rfl | rfl)]
        generalize hρ : rho _ _ _ vs = ρ
        have e1 : ρ (.tmp 1) = .pointer (some ⟨B, 0, none⟩) := by rw [← hρ]; kernel_rfl
        clear hρ hV
        refine runs_val (v := .pointer (some ⟨B, 3, none⟩)) (w' := w) ?_ ⟨Below.refl _ _, rfl⟩
        go_simp <;> (first | exact IntWalk.u64_in _ (by omega) | exact IntWalk.u32_in _ (by omega) | exact IntWalk.u16_in _ (by omega) | exact IntWalk.u8_in _ (by omega) | exact IntWalk.i64_in _ (by omega) | skip)
      case r6_2o4 =>
        intro vs w hb hV
        rw [if_pos (by first | kernel_rfl | rfl)]
        generalize hρ : rho _ _ _ vs = ρ
        have d24 : (vs 3) = .pointer (some ⟨B, 3, none⟩) := hV 3 (by first | kernel_rfl | rfl)
        have e24 : ρ (.tmp 24) = vs 3 := by rw [← hρ]; kernel_rfl
        rw [d24] at e24; clear d24
        clear hρ hV
        have c3 := blk_cell (HLG.out w hb) 3
        have c4 := blk_cell (HLG.out w hb) 4
        have c5 := blk_cell (HLG.out w hb) 5
        have c6 := blk_cell (HLG.out w hb) 6
        refine runs_val (v := .agg #[.int .u32 tkn, .int .u32 hsn, .slice A n c, .slice A2 nc c2]) (w' := w) ?_ ⟨Below.refl _ _, rfl⟩
        go_simp
      case r6_2o5 =>
        intro vs w hb hV
        rw [if_pos (by first | kernel_rfl | rfl)]
        generalize hρ : rho _ _ _ vs = ρ
        have d25 : (vs 4) = .agg #[.int .u32 tkn, .int .u32 hsn, .slice A n c, .slice A2 nc c2] := hV 4 (by first | kernel_rfl | rfl)
        have e25 : ρ (.tmp 25) = vs 4 := by rw [← hρ]; kernel_rfl
        rw [d25] at e25; clear d25
        have ef49 : ρ (.func 49) = .func (.func 49) #[] #[] := by rw [← hρ]; rfl
        clear hρ hV
        refine runs_call (f := 49) (args := #[.agg #[.int .u32 tkn, .int .u32 hsn, .slice A n c, .slice A2 nc c2]]) (w' := w) ?_ ?_
        · go_simp
        · refine (rbytes7_any tkn hsn P C _ w (HD.out w (HW0.out w hb)) HRB.out HTM.out.2.2.1 HTM.out.2.2.2 (fun y hy => (HOK.out.2.2.2.2.2.2.1 y hy).2)).mono ?_
          rintro e w5 ⟨v, rfl, hv, hb5⟩
          exact ⟨_, rfl, hb5, hv⟩
      case r6_2o6 =>
        intro vs w hb hV
        rw [if_pos (by first | kernel_rfl | rfl)]
        generalize hρ : rho _ _ _ vs = ρ
        have d23 : (fun (w : World) (v : Value) => ∃ A, v = .slice A 1 1 ∧ (Kd.int .u8).C w A 1 [5]) w (vs 2) := hV 2 (by first | kernel_rfl | rfl)
        have e23 : ρ (.tmp 23) = vs 2 := by rw [← hρ]; kernel_rfl
        obtain ⟨B1, h1, hC1⟩ := d23
        have d26 : (fun (w : World) (v : Value) => BvC w (dBytes tkn hsn P C) v) w (vs 5) := hV 5 (by first | kernel_rfl | rfl)
        have e26 : ρ (.tmp 26) = vs 5 := by rw [← hρ]; kernel_rfl
        obtain ⟨B2, b2, h2, hb2, hC2⟩ := d26
        clear hρ hV
        rw [h1] at e23
        rw [h2] at e26
        refine runs_val (v := .slice (some ⟨w.heap.size, 0, none⟩) 2 2) (w' := w.alloc (.cells #[.slice B1 1 1, .slice B2 (dBytes tkn hsn P C).length b2] 23)) ?_ ⟨below_alloc (Below.refl _ _) _, _, rfl, C_of_two (heap_alloc_new _ _) (Kd.C_alloc hC1 _) (by omega) (Kd.C_alloc hC2 _) hb2⟩
        go_simp
      case r6_2o7 =>
        intro vs w hb hV
        rw [if_pos (by first | kernel_rfl | rfl)]
        generalize hρ : rho _ _ _ vs = ρ
        have d27 : (fun (w : World) (v : Value) => ∃ A, v = .slice A 2 2 ∧ (Kd.slice 5 (Kd.int .u8)).C w A 2 [[5], dBytes tkn hsn P C]) w (vs 6) := hV 6 (by first | kernel_rfl | rfl)
        have e27 : ρ (.tmp 27) = vs 6 := by rw [← hρ]; kernel_rfl
        obtain ⟨B4, h4, hC4⟩ := d27
        have ef21 : ρ (.func 21) = .func (.func 21) #[] #[] := by rw [← hρ]; rfl
        clear hρ hV
        rw [h4] at e27
        refine runs_call (f := 21) (args := #[.slice B4 2 2]) (w' := w) ?_ ?_
        · go_simp
        · have he : [[5], dBytes tkn hsn P C].flatten = S := by rw [HE.out]; simp
          refine (join_any B4 2 2 _ w hC4 (by omega) (by rw [he]; have := HSL.out; omega)).mono ?_
          rintro e w5 ⟨v, rfl, hv, hb5⟩
          rw [he] at hv
          exact ⟨_, rfl, hb5, BvC.of_R hv⟩
      case r6_2o8 =>
        intro vs w hb hV
        rw [if_pos (by first | kernel_rfl | rfl)]
        generalize hρ : rho _ _ _ vs = ρ
        have d28 : (fun (w : World) (v : Value) => BvC w S v) w (vs 7) := hV 7 (by first | kernel_rfl | rfl)
        have e28 : ρ (.tmp 28) = vs 7 := by rw [← hρ]; kernel_rfl
        clear hρ hV
        refine runs_val (v := vs 7) (w' := w) ?_ ⟨Below.refl _ _, d28⟩
        go_simp
      case r6_2e =>
        intro vs W2 hb2 hV
        have d21 : (vs 0) = .pointer (some ⟨B, 0, none⟩) := hV 0 (Nat.le_of_ble_eq_true rfl)
        have d22 : (vs 1) = .int .u8 5 := hV 1 (Nat.le_of_ble_eq_true rfl)
        have d23 : (fun (w : World) (v : Value) => ∃ A, v = .slice A 1 1 ∧ (Kd.int .u8).C w A 1 [5]) W2 (vs 2) := hV 2 (Nat.le_of_ble_eq_true rfl)
        have d24 : (vs 3) = .pointer (some ⟨B, 3, none⟩) := hV 3 (Nat.le_of_ble_eq_true rfl)
        have d25 : (vs 4) = .agg #[.int .u32 tkn, .int .u32 hsn, .slice A n c, .slice A2 nc c2] := hV 4 (Nat.le_of_ble_eq_true rfl)
        have d26 : (fun (w : World) (v : Value) => BvC w (dBytes tkn hsn P C) v) W2 (vs 5) := hV 5 (Nat.le_of_ble_eq_true rfl)
        have d27 : (fun (w : World) (v : Value) => ∃ A, v = .slice A 2 2 ∧ (Kd.slice 5 (Kd.int .u8)).C w A 2 [[5], dBytes tkn hsn P C]) W2 (vs 6) := hV 6 (Nat.le_of_ble_eq_true rfl)
        have d28 : (fun (w : World) (v : Value) => BvC w S v) W2 (vs 7) := hV 7 (Nat.le_of_ble_eq_true rfl)
        have d2 : (fun (w : World) (v : Value) => BvC w S v) W2 (vs 8) := hV 8 (Nat.le_of_ble_eq_true rfl)
        clear hV
        simp only [putAll]
        rw [d21, d22, d24, d25]
        clear d21 d22 d24 d25
        generalize vs 2 = v23 at *
        generalize vs 5 = v26 at *
        generalize vs 6 = v27 at *
        generalize vs 7 = v28 at *
        generalize vs 8 = v2 at *
        clear vs
        simp only [Act.put, List.setIfInBounds_toArray, List.set_cons_zero, List.set_cons_succ]
        have HB2 := Aside0.mk (HW0.out _ hb2)
        have HV2 := Aside0.mk d2
        obtain ⟨A5, c5, q5, hc5, hC5⟩ := d2
        clear d23 d26 d27 d28 hb2
        subst q5
        go_wp2_with fail
        go_ret
        rw [HB.out]
        exact ⟨_, rfl, HV2.out, HB2.out⟩
    · skip
      by_cases h6 : k = 6
      · subst h6
        have HRB : Aside0 (rightB P C.length = true) := ⟨by
          have h := HRM.out
          unfold rightM at h
          rw [if_neg (by omega), if_neg (by omega), if_pos (by omega)] at h
          simp only [Bool.and_eq_true] at h
          exact h.2.2⟩
        have HE : Aside0 (S = [6] ++ dBytes tkn hsn P C) := ⟨by rw [← HS.out]; unfold mSay; rw [if_neg (by omega), if_pos (by omega)]; unfold pbD; rw [Int.toNat_natCast, Int.toNat_natCast, HRB.out, if_pos rfl]⟩
        have HSL : Aside0 (S.length ≤ 1000000) := ⟨by rw [HE.out]; have h1 := pbD_le tkn hsn P C; unfold pbD at h1; rw [if_pos HRB.out] at h1; have := HOK.out.2.2.2.2.2.2.2.1; rw [List.length_append]; simp only [List.length_cons, List.length_nil]; omega⟩
        go_wp2_with fail
        generalize w00.alloc (.cells #[.int .u8 6, .int .u32 tn, .int .u32 mn, .int .u32 tkn, .int .u32 hsn, .slice A n c, .slice A2 nc c2] 39) = W at *
        have HLG : Aside0 (∀ z, Below W.heap.size W z → z.heap[B]? = some (.cells #[.int .u8 6, .int .u32 tn, .int .u32 mn, .int .u32 tkn, .int .u32 hsn, .slice A n c, .slice A2 nc c2] 39 (0, 0))) := ⟨fun z hz => (hz.block B (H0.out.lt (i := 0) rfl)).trans (H0.out.get (i := 0) rfl)⟩
        have HW0 : Aside0 (∀ z, Below W.heap.size W z → Below B w00 z) := ⟨fun z hz => H0.out.bel.trans (hz.mono H0.out.le)⟩
        clear hB c0
        refine region_grown (W := W)
          [fun (w : World) (v : Value) => v = .pointer (some ⟨B, 0, none⟩),
           fun (w : World) (v : Value) => v = .int .u8 6,
           fun (w : World) (v : Value) => ∃ A, v = .slice A 1 1 ∧ (Kd.int .u8).C w A 1 [6],
           fun (w : World) (v : Value) => v = .pointer (some ⟨B, 3, none⟩),
           fun (w : World) (v : Value) => v = .agg #[.int .u32 tkn, .int .u32 hsn, .slice A n c, .slice A2 nc c2],
           fun (w : World) (v : Value) => BvC w (dBytes tkn hsn P C) v,
           fun (w : World) (v : Value) => ∃ A, v = .slice A 2 2 ∧ (Kd.slice 5 (Kd.int .u8)).C w A 2 [[6], dBytes tkn hsn P C],
           fun (w : World) (v : Value) => BvC w S v,
           fun (w : World) (v : Value) => BvC w S v]
          (fun j =>  none)
          [(0, some 21), (1, some 22), (2, some 23), (3, some 24), (4, some 25), (5, some 26), (6, some 27), (7, some 28), (8, some 2)]
          []
          (by kernel_rfl) (by kernel_rfl) (by kernel_rfl) (by kernel_rfl) ?r6_3g ?r6_3s ⟨?r6_3o0, ?r6_3o1, ?r6_3o2, ?r6_3o3, ?r6_3o4, ?r6_3o5, ?r6_3o6, ?r6_3o7, ?r6_3o8, trivial⟩ ?r6_3e
        case r6_3g =>
          intro j hj; cases hj
        case r6_3s =>
          refine ⟨(fun w w' v hb h => h), (fun w w' v hb h => h), (fun w w' v hb h => let ⟨A, h1, h2⟩ := h; ⟨A, h1, Kd.C_below h2 hb⟩), (fun w w' v hb h => h), (fun w w' v hb h => h), (fun w w' v hb h => h.below hb), (fun w w' v hb h => let ⟨A, h1, h2⟩ := h; ⟨A, h1, Kd.C_below h2 hb⟩), (fun w w' v hb h => h.below hb), (fun w w' v hb h => h.below hb), trivial⟩
        case r6_3o0 =>
          intro vs w hb hV
          rw [if_pos (by first | kernel_rfl | rfl)]
          generalize hρ : rho _ _ _ vs = ρ
          have e1 : ρ (.tmp 1) = .pointer (some ⟨B, 0, none⟩) := by rw [← hρ]; kernel_rfl
          clear hρ hV
          refine runs_val (v := .pointer (some ⟨B, 0, none⟩)) (w' := w) ?_ ⟨Below.refl _ _, rfl⟩
          go_simp <;> (first | exact IntWalk.u64_in _ (by omega) | exact IntWalk.u32_in _ (by omega) | exact IntWalk.u16_in _ (by omega) | exact IntWalk.u8_in _ (by omega) | exact IntWalk.i64_in _ (by omega) | skip)
        case r6_3o1 =>
          intro vs w hb hV
          rw [if_pos (by first | kernel_rfl | rfl)]
          generalize hρ : rho _ _ _ vs = ρ
          have d21 : (vs 0) = .pointer (some ⟨B, 0, none⟩) := hV 0 (by first | kernel_rfl | rfl)
          have e21 : ρ (.tmp 21) = vs 0 := by rw [← hρ]; kernel_rfl
          rw [d21] at e21; clear d21
          clear hρ hV
          have c0 := blk_cell (HLG.out w hb) 0
          refine runs_val (v := .int .u8 6) (w' := w) ?_ ⟨Below.refl _ _, rfl⟩
          go_simp
        case r6_3o2 =>
          intro vs w hb hV
          rw [if_pos (by first | kernel_rfl | rfl)]
          generalize hρ : rho _ _ _ vs = ρ
          have d22 : (vs 1) = .int .u8 6 := hV 1 (by first | kernel_rfl | rfl)
          have e22 : ρ (.tmp 22) = vs 1 := by rw [← hρ]; kernel_rfl
          rw [d22] at e22; clear d22
          clear hρ hV
          refine runs_val (v := .slice (some ⟨w.heap.size, 0, none⟩) 1 1) (w' := w.alloc (.cells #[.int .u8 6] 5)) ?_ ⟨below_alloc (Below.refl _ _) _, _, rfl, C_of_block (heap_alloc_new _ _) ⟨rfl, rfl, by omega⟩⟩
          go_simp
        case r6_3o3 =>
          intro vs w hb hV
          rw [if_pos (by first | kernel_rfl | rfl)]
          generalize hρ : rho _ _ _ vs = ρ
          have e1 : ρ (.tmp 1) = .pointer (some ⟨B, 0, none⟩) := by rw [← hρ]; kernel_rfl
          clear hρ hV
          refine runs_val (v := .pointer (some ⟨B, 3, none⟩)) (w' := w) ?_ ⟨Below.refl _ _, rfl⟩
          go_simp <;> (first | exact IntWalk.u64_in _ (by omega) | exact IntWalk.u32_in _ (by omega) | exact IntWalk.u16_in _ (by omega) | exact IntWalk.u8_in _ (by omega) | exact IntWalk.i64_in _ (by omega) | skip)
        case r6_3o4 =>
          intro vs w hb hV
          rw [if_pos (by first | kernel_rfl | rfl)]
          generalize hρ : rho _ _ _ vs = ρ
          have d24 : (vs 3) = .pointer (some ⟨B, 3, none⟩) := hV 3 (by first | kernel_rfl | rfl)
          have e24 : ρ (.tmp 24) = vs 3 := by rw [← hρ]; kernel_rfl
          rw [d24] at e24; clear d24
          clear hρ hV
          have c3 := blk_cell (HLG.out w hb) 3
          have c4 := blk_cell (HLG.out w hb) 4
          have c5 := blk_cell (HLG.out w hb) 5
          have c6 := blk_cell (HLG.out w hb) 6
          refine runs_val (v := .agg #[.int .u32 tkn, .int .u32 hsn, .slice A n c, .slice A2 nc c2]) (w' := w) ?_ ⟨Below.refl _ _, rfl⟩
          go_simp
        case r6_3o5 =>
          intro vs w hb hV
          rw [if_pos (by first | kernel_rfl | rfl)]
          generalize hρ : rho _ _ _ vs = ρ
          have d25 : (vs 4) = .agg #[.int .u32 tkn, .int .u32 hsn, .slice A n c, .slice A2 nc c2] := hV 4 (by first | kernel_rfl | rfl)
          have e25 : ρ (.tmp 25) = vs 4 := by rw [← hρ]; kernel_rfl
          rw [d25] at e25; clear d25
          have ef49 : ρ (.func 49) = .func (.func 49) #[] #[] := by rw [← hρ]; rfl
          clear hρ hV
          refine runs_call (f := 49) (args := #[.agg #[.int .u32 tkn, .int .u32 hsn, .slice A n c, .slice A2 nc c2]]) (w' := w) ?_ ?_
          · go_simp
          · refine (rbytes7_any tkn hsn P C _ w (HD.out w (HW0.out w hb)) HRB.out HTM.out.2.2.1 HTM.out.2.2.2 (fun y hy => (HOK.out.2.2.2.2.2.2.1 y hy).2)).mono ?_
            rintro e w5 ⟨v, rfl, hv, hb5⟩
            exact ⟨_, rfl, hb5, hv⟩
        case r6_3o6 =>
          intro vs w hb hV
          rw [if_pos (by first | kernel_rfl | rfl)]
          generalize hρ : rho _ _ _ vs = ρ
          have d23 : (fun (w : World) (v : Value) => ∃ A, v = .slice A 1 1 ∧ (Kd.int .u8).C w A 1 [6]) w (vs 2) := hV 2 (by first | kernel_rfl | rfl)
          have e23 : ρ (.tmp 23) = vs 2 := by rw [← hρ]; kernel_rfl
          obtain ⟨B1, h1, hC1⟩ := d23
          have d26 : (fun (w : World) (v : Value) => BvC w (dBytes tkn hsn P C) v) w (vs 5) := hV 5 (by first | kernel_rfl | rfl)
          have e26 : ρ (.tmp 26) = vs 5 := by rw [← hρ]; kernel_rfl
          obtain ⟨B2, b2, h2, hb2, hC2⟩ := d26
          clear hρ hV
          rw [h1] at e23
          rw [h2] at e26
          refine runs_val (v := .slice (some ⟨w.heap.size, 0, none⟩) 2 2) (w' := w.alloc (.cells #[.slice B1 1 1, .slice B2 (dBytes tkn hsn P C).length b2] 23)) ?_ ⟨below_alloc (Below.refl _ _) _, _, rfl, C_of_two (heap_alloc_new _ _) (Kd.C_alloc hC1 _) (by omega) (Kd.C_alloc hC2 _) hb2⟩
          go_simp
        case r6_3o7 =>
          intro vs w hb hV
          rw [if_pos (by first | kernel_rfl | rfl)]
          generalize hρ : rho _ _ _ vs = ρ
          have d27 : (fun (w : World) (v : Value) => ∃ A, v = .slice A 2 2 ∧ (Kd.slice 5 (Kd.int .u8)).C w A 2 [[6], dBytes tkn hsn P C]) w (vs 6) := hV 6 (by first | kernel_rfl | rfl)
          have e27 : ρ (.tmp 27) = vs 6 := by rw [← hρ]; kernel_rfl
          obtain ⟨B4, h4, hC4⟩ := d27
          have ef21 : ρ (.func 21) = .func (.func 21) #[] #[] := by rw [← hρ]; rfl
          clear hρ hV
          rw [h4] at e27
          refine runs_call (f := 21) (args := #[.slice B4 2 2]) (w' := w) ?_ ?_
          · go_simp
          · have he : [[6], dBytes tkn hsn P C].flatten = S := by rw [HE.out]; simp
            refine (join_any B4 2 2 _ w hC4 (by omega) (by rw [he]; have := HSL.out; omega)).mono ?_
            rintro e w5 ⟨v, rfl, hv, hb5⟩
            rw [he] at hv
            exact ⟨_, rfl, hb5, BvC.of_R hv⟩
        case r6_3o8 =>
          intro vs w hb hV
          rw [if_pos (by first | kernel_rfl | rfl)]
          generalize hρ : rho _ _ _ vs = ρ
          have d28 : (fun (w : World) (v : Value) => BvC w S v) w (vs 7) := hV 7 (by first | kernel_rfl | rfl)
          have e28 : ρ (.tmp 28) = vs 7 := by rw [← hρ]; kernel_rfl
          clear hρ hV
          refine runs_val (v := vs 7) (w' := w) ?_ ⟨Below.refl _ _, d28⟩
          go_simp
        case r6_3e =>
          intro vs W2 hb2 hV
          have d21 : (vs 0) = .pointer (some ⟨B, 0, none⟩) := hV 0 (Nat.le_of_ble_eq_true rfl)
          have d22 : (vs 1) = .int .u8 6 := hV 1 (Nat.le_of_ble_eq_true rfl)
          have d23 : (fun (w : World) (v : Value) => ∃ A, v = .slice A 1 1 ∧ (Kd.int .u8).C w A 1 [6]) W2 (vs 2) := hV 2 (Nat.le_of_ble_eq_true rfl)
          have d24 : (vs 3) = .pointer (some ⟨B, 3, none⟩) := hV 3 (Nat.le_of_ble_eq_true rfl)
          have d25 : (vs 4) = .agg #[.int .u32 tkn, .int .u32 hsn, .slice A n c, .slice A2 nc c2] := hV 4 (Nat.le_of_ble_eq_true rfl)
          have d26 : (fun (w : World) (v : Value) => BvC w (dBytes tkn hsn P C) v) W2 (vs 5) := hV 5 (Nat.le_of_ble_eq_true rfl)
          have d27 : (fun (w : World) (v : Value) => ∃ A, v = .slice A 2 2 ∧ (Kd.slice 5 (Kd.int .u8)).C w A 2 [[6], dBytes tkn hsn P C]) W2 (vs 6) := hV 6 (Nat.le_of_ble_eq_true rfl)
          have d28 : (fun (w : World) (v : Value) => BvC w S v) W2 (vs 7) := hV 7 (Nat.le_of_ble_eq_true rfl)
          have d2 : (fun (w : World) (v : Value) => BvC w S v) W2 (vs 8) := hV 8 (Nat.le_of_ble_eq_true rfl)
          clear hV
          simp only [putAll]
          rw [d21, d22, d24, d25]
          clear d21 d22 d24 d25
          generalize vs 2 = v23 at *
          generalize vs 5 = v26 at *
          generalize vs 6 = v27 at *
          generalize vs 7 = v28 at *
          generalize vs 8 = v2 at *
          clear vs
          simp only [Act.put, List.setIfInBounds_toArray, List.set_cons_zero, List.set_cons_succ]
          have HB2 := Aside0.mk (HW0.out _ hb2)
          have HV2 := Aside0.mk d2
          obtain ⟨A5, c5, q5, hc5, hC5⟩ := d2
          clear d23 d26 d27 d28 hb2
          subst q5
          go_wp2_with fail
          go_ret
          rw [HB.out]
          exact ⟨_, rfl, HV2.out, HB2.out⟩
      · skip
        have HE : Aside0 (S = [k]) := ⟨by rw [← HS.out]; unfold mSay; rw [if_neg h2, if_neg (by omega)]⟩
        have hsz : (w00.alloc (.cells #[.int .u8 k, .int .u32 tn, .int .u32 mn, .int .u32 tkn, .int .u32 hsn, .slice A n c, .slice A2 nc c2] 39)).heap.size = B + 1 := by rw [← HB.out]; simp
        go_wp2_with fail
        go_ret
        rw [HB.out, HE.out]
        exact ⟨_, rfl, ⟨_, _, rfl, Nat.le_refl _, C_of_block (k := .u8) (xs := [k]) (hsz ▸ heap_alloc_new _ (.cells #[.int .u8 k] 5)) ⟨rfl, rfl, by simp⟩⟩, (H0.out.box _).bel⟩
end Go.Proofs.Yticpjidcgaaldaa
