/- The parts of this proof, one behind the other: contracts of the functions, plain laws, the walk. -/
import Derived.Test.YtkhlalpkkmjfnaaMfc
namespace Go.Proofs.Ytkhlalpkkmjfnaa
open Go.RowKit Go.Proofs.YtkhlalpkkmjfnaaW.PrintWords Go.Proofs.YtkhlalpkkmjfnaaW.PrintLast Go.Proofs.YtkhlalpkkmjfnaaW.PrintMore
set_option linter.unusedVariables false
set_option linter.unusedSimpArgs false

theorem rows_at {w : World} {g n e : Nat} {xs : List (List Int)} (h : (Kd.slice e (Kd.int .u8)).C w (some ⟨g, 0, none⟩) n xs) (j : Nat) (hj : j < xs.length) : ∃ A c, w.cell? ⟨g, j, none⟩ = some (.slice A xs[j].length c) ∧ xs[j].length ≤ c ∧ (Kd.int .u8).C w A xs[j].length xs[j] := by
  have hn := h.1
  obtain ⟨ad, cs, e1, _, hK, hc⟩ := Kd.C_get h ([] : List Int) (j : Int) (by omega) (by omega)
  rw [Int.toNat_natCast, List.getD_eq_getElem?_getD, List.getElem?_eq_getElem hj] at hK
  obtain ⟨A, c, rfl, h1, h2⟩ := hK
  have := hc 0 _ rfl
  obtain rfl := Option.some.inj e1
  refine ⟨A, c, ?_, h1, h2⟩
  have hz : (Kd.slice e (Kd.int .u8)).sz = 1 := rfl
  rw [hz, Nat.mul_one, Nat.add_zero, add_plain] at this
  exact this
set_option maxRecDepth 100000 in
set_option maxHeartbeats 16000000 in
theorem forms_walk (x : S41) (cs : List Value) (A : Option Addr) (n c : Nat) (l : List Int) (a0 t0 : Int) (w00 : World) (hK : k41.K w00 x cs) (hx : OkD x) (hr : (Kd.int .u8).C w00 A n l) (hc : n ≤ c) (hl : Bytes l) (hA : 0 ≤ a0 ∧ a0 ≤ 65535) (hT : 0 ≤ t0 ∧ t0 ≤ 255) :
    Calls Try.prog 7 #[.agg cs.toArray, .slice A n c, .int .u16 a0, .int .u8 t0] w00 fun e w' => e = .returned (.bool true) ∧ Below w00.heap.size w00 w' := by
  obtain ⟨f0, f1, P0, C0⟩ := x
  have hD := delta_in hK
  obtain ⟨k1, k2, k3, k4⟩ := hx
  have b1 := bounds_u32 k1
  have b2 := bounds_u32 k2
  simp only at hD b1 b2 k3 k4
  obtain ⟨tk, rfl⟩ : ∃ tk : Nat, f0 = (tk : Int) := ⟨f0.toNat, by omega⟩
  obtain ⟨hs, rfl⟩ : ∃ hs : Nat, f1 = (hs : Int) := ⟨f1.toNat, by omega⟩
  have HTH : Aside0 (tk < 4294967296 ∧ hs < 4294967296) := ⟨by omega, by omega⟩
  obtain ⟨B, hB⟩ : ∃ B, w00.heap.size = B := ⟨_, rfl⟩
  have HF : Aside0 (∀ z, Below B w00 z → DvC z tk hs P0 C0 (.agg cs.toArray) ∧ (Kd.int .u8).C z A n l) := ⟨fun z hz => ⟨hD.below (hB ▸ hz), Kd.C_below hr (hB ▸ hz)⟩⟩
  obtain ⟨A1, c1, A2, c2, he, _⟩ := hD
  rw [he] at HF
  rw [he]
  have H0 := Aside0.mk ((Hp.start w00).alloc (.cells #[.int .u32 tk, .int .u32 hs, .slice A1 P0.length c1, .slice A2 C0.length c2] 41))
  rw [hB] at H0
  obtain ⟨pn, hpn⟩ : ∃ pn, P0.length = pn := ⟨_, rfl⟩
  obtain ⟨cn, hcn⟩ : ∃ cn, C0.length = cn := ⟨_, rfl⟩
  rw [hpn, hcn] at H0 HF
  rw [hpn, hcn]
  have HB := Aside0.mk hB
  have HC := Aside0.mk hc
  obtain ⟨P, hP⟩ : ∃ P, P0.take 60 = P := ⟨_, rfl⟩
  obtain ⟨C, hC⟩ : ∃ C, C0.take 60 = C := ⟨_, rfl⟩
  obtain ⟨Q, hQ⟩ : ∃ Q, l.take 60 = Q := ⟨_, rfl⟩
  have HPB : Aside0 (Bytes P) := ⟨fun b hb => by rw [← hP] at hb; have := bounds_u8 (k3 b (List.mem_of_mem_take hb)); omega⟩
  have HCO : Aside0 (∀ y ∈ C, I32p y.f0 ∧ U32 y.f1) := ⟨fun y hy => by rw [← hC] at hy; exact ⟨(k4 y (List.mem_of_mem_take hy)).i32p, (k4 y (List.mem_of_mem_take hy)).u32⟩⟩
  have HLB : Aside0 (Bytes Q) := ⟨by rw [← hQ]; exact hl.take 60⟩
  have HPN : Aside0 (P.length ≤ 60 ∧ C.length ≤ 60 ∧ Q.length ≤ 60) := ⟨by rw [← hP, ← hC, ← hQ]; exact ⟨List.length_take_le _ _, List.length_take_le _ _, List.length_take_le _ _⟩⟩
  have KS := Aside0.mk (fun (v : Value) (z : World) (h : DvC z tk hs P0 C0 v) => small_any v tk hs P0 C0 z h)
  have KC := Aside0.mk (fun (z : World) (h : (Kd.int .u8).C z A n l) => cut_any A n c l 60 z h hc (by omega))
  rw [hP, hC] at KS
  rw [show (60 : Int).toNat = 60 from rfl, hQ] at KC
  obtain ⟨β, hβ⟩ : ∃ β, rightB P C.length = β := ⟨_, rfl⟩
  have KR := Aside0.mk (fun (v : Value) (z : World) (h : DrC z tk hs P (C.map toR) v) => rright_any tk hs P (C.map toR) v z h HPB.out (by have := HPN.out; omega))
  rw [List.length_map, hβ] at KR
  obtain ⟨pb, hpb⟩ : ∃ pb, pbD tk hs P C = pb := ⟨_, rfl⟩
  have KB := Aside0.mk (fun (v : Value) (z : World) (h : DvC z tk hs P C v) => pbytes7_any tk hs P C v z h HPB.out (by have := HPN.out; omega) HTH.out.1 HTH.out.2 (fun y hy => (HCO.out y hy).2))
  rw [hpb] at KB
  have HPL : Aside0 (pb.length ≤ 549 ∧ Bytes pb) := ⟨by rw [← hpb]; have := pbD_le tk hs P C; have := HPN.out; exact ⟨by omega, pbD_bytes tk hs P C HPB.out⟩⟩
  have HPOS : Aside0 (decide (0 < pb.length) = β) := ⟨by rw [← hpb, ← hβ]; exact pbD_pos tk hs P C⟩
  have HBT : Aside0 (β = true → dBytes tk hs P C = pb ∧ rightB P C.length = true) := ⟨fun h => by rw [← hpb]; unfold pbD; rw [hβ, if_pos h]; exact ⟨rfl, h⟩⟩
  obtain ⟨pl, hpl⟩ : ∃ pl, P.length = pl := ⟨_, rfl⟩
  obtain ⟨cl, hcl⟩ : ∃ cl, C.length = cl := ⟨_, rfl⟩
  obtain ⟨ql, hql⟩ : ∃ ql, Q.length = ql := ⟨_, rfl⟩
  obtain ⟨bl, hbl⟩ : ∃ bl, pb.length = bl := ⟨_, rfl⟩
  have HQL := Aside0.mk (And.intro hql hbl)
  rw [hbl] at HPOS HPL
  clear hK hr hc hl k1 k2 k3 k4 b1 b2 he hpn hcn hP hC hQ hβ hpb
  go_enter Try.func7, Try.ntmps7
  go_wp2_with fail
  refine (awake7_any _).mono ?_
  rintro e w1 ⟨rfl, hb1⟩
  have H1 := Aside0.mk (H0.out.call hb1)
  clear hb1 H0
  go_wp2_with (first | (refine wpList_load_row_g 41 (.tmp 4) rfl B rfl rfl 41 _ (0, 0) _ (H1.out.get (i := 0) rfl) Try.underlying41 rfl (delta_info _ _ _ _) ?_))
  refine (KS.out _ w1 (HF.out _ H1.out.bel).1).mono ?_
  rintro e w2 ⟨v2, rfl, hv2, hb2⟩
  have HQ2 := Aside0.mk (HF.out _ (H1.out.call hb2).bel).2
  have H2 := Aside0.mk (H1.out.ofR hb2 hv2)
  obtain ⟨A3, c3, A4, c4, rfl, _⟩ := hv2
  rw [hpl, hcl] at H2
  rw [hpl, hcl]
  clear hb2 H1 hpl hcl KS HF
  go_wp2_with fail
  refine (KC.out w2 HQ2.out).mono ?_
  rintro e w3 ⟨v3, rfl, hv3, hb3⟩
  have H3 := Aside0.mk (H2.out.row hb3 hv3)
  obtain ⟨Aq, cq, rfl, hcq, _⟩ := Kd.R_reads hv3
  rw [hql] at H3 hcq
  rw [hql]
  have HCQ := Aside0.mk hcq
  clear hb3 hv3 hcq H2 HQ2 KC hql
  go_wp2_with (first | (refine wpList_store_row rfl 41 (.tmp 4) (.tmp 23) rfl B #[.int .u32 tk, .int .u32 hs, .slice A3 pl c3, .slice A4 cl c4] rfl rfl 41 _ (H3.out.get (i := 0) rfl) (delta_info _ _ _ _) rfl (by simp [Value.oneCell']) ?_) | (refine wpList_load_row_g 41 (.tmp 4) rfl B rfl rfl 41 _ (0, 0) _ ((H3.out.setRow (i := 0) rfl #[.int .u32 tk, .int .u32 hs, .slice A3 pl c3, .slice A4 cl c4]).get (i := 0) rfl) Try.underlying41 rfl (delta_info _ _ _ _) ?_))
  have H4 := Aside0.mk (H3.out.setRow (i := 0) rfl #[.int .u32 tk, .int .u32 hs, .slice A3 pl c3, .slice A4 cl c4])
  clear H3
  refine (KB.out _ _ (H4.out.fact (i := 1) rfl).cells).mono ?_
  rintro e w4 ⟨v4, rfl, hv4, hb4⟩
  have H5 := Aside0.mk (H4.out.row hb4 hv4)
  obtain ⟨Ab, cb, rfl, hcb, _⟩ := Kd.R_reads hv4
  rw [hbl] at H5 hcb
  rw [hbl]
  have HCB := Aside0.mk hcb
  clear hb4 hv4 hcb H4 KB hbl
  go_wp2_with (first | (refine wpList_load_row_g 41 (.tmp 4) rfl B rfl rfl 41 _ (0, 0) _ (H5.out.get (i := 0) rfl) Try.underlying41 rfl (delta_info _ _ _ _) ?_))
  refine (own7_any tk hs P C _ _ (H5.out.fact (i := 2) rfl).cells (by have := HPN.out; omega)).mono ?_
  rintro e w5 ⟨v5, rfl, hv5, hb5⟩
  have H6 := Aside0.mk (H5.out.call hb5)
  clear hb5 H5
  go_wp2_with fail
  refine (KR.out _ _ hv5).mono ?_
  rintro e w6 ⟨rfl, hb6⟩
  have H7 := Aside0.mk (H6.out.call hb6)
  clear hb6 hv5 H6 KR
  cases β with
  | false =>
    have hb0 : ¬ (0 : Int) < bl := by have := of_decide_eq_false HPOS.out; omega
    have hd0 : decide ((0 : Int) < bl) = false := decide_eq_false hb0
    have hd1 : decide (0 < bl) = false := HPOS.out
    go_wp2_with fail
    refine (join_any _ _ _ [Q] _ (C_one_row rfl (Ru_C (H7.out.fact (i := 1) rfl)).2.2 HCQ.out) (Nat.le_refl _) (by have := HPN.out; have := HPL.out.1; have := HQL.out; simp; omega)).mono ?_
    rintro e w7 ⟨v7, rfl, hv7, hbw7⟩
    rw [List.flatten_cons, List.flatten_nil, List.append_nil] at hv7
    obtain ⟨Ae, ce, rfl, hce, _⟩ := Kd.R_reads hv7
    have H8 := Aside0.mk ((H7.out.box _).row hbw7 hv7)
    rw [HQL.out.1] at H8 hce
    rw [HQL.out.1]
    have HCE := Aside0.mk hce
    have HEF : Aside0 (Bytes Q ∧ Q.length ≤ 549) := ⟨HLB.out, by have := HPN.out; omega⟩
    clear hv7 hbw7 hce H7
    go_wp2_with fail
    refine (join_any _ _ _ [pb, Q] _ (C_of_two (blk_new _ _) (Kd.C_alloc (Ru_C (H8.out.fact (i := 1) rfl)).2.2 _) HCB.out (Kd.C_alloc (Ru_C (H8.out.fact (i := 2) rfl)).2.2 _) HCQ.out) (Nat.le_refl _) (by have := HPN.out; have := HPL.out.1; have := HQL.out; simp; omega)).mono ?_
    rintro e x1 ⟨v1, rfl, hv1, hbx1⟩
    rw [show [pb, Q].flatten = pb ++ Q by simp] at hv1
    obtain ⟨Aj, cj, rfl, hcj, _⟩ := Kd.R_reads hv1
    have HJ := Aside0.mk ((H8.out.box _).row hbx1 hv1)
    have HCJ := Aside0.mk hcj
    clear hbx1 hv1 hcj H8
    obtain ⟨jl, hjl⟩ : ∃ jl, (pb ++ Q).length = jl := ⟨_, rfl⟩
    rw [hjl] at HJ HCJ
    rw [hjl]
    clear hjl
    go_wp2_with fail
    obtain ⟨g0, hg0⟩ : ∃ g0, x1.heap.size = g0 := ⟨_, rfl⟩
    have HX : Aside0 (Below B w00 (x1.alloc (.cells #[.slice Ae ql ce, .slice Aq ql cq, .slice Aj jl cj] 39)) ∧ B ≤ (x1.alloc (.cells #[.slice Ae ql ce, .slice Aq ql cq, .slice Aj jl cj] 39)).heap.size) := ⟨(HJ.out.box _).bel, (HJ.out.box _).le⟩
    have HC3 : (Kd.slice 5 (Kd.int .u8)).C (x1.alloc (.cells #[.slice Ae ql ce, .slice Aq ql cq, .slice Aj jl cj] 39)) (some ⟨g0, 0, none⟩) 3 [Q, Q, pb ++ Q] := by
      subst hg0
      exact C_of_three (blk_new _ _) (Kd.C_alloc (Ru_C (HJ.out.fact (i := 1) rfl)).2.2 _) HCE.out (Kd.C_alloc (Ru_C (HJ.out.fact (i := 3) rfl)).2.2 _) HCQ.out (Kd.C_alloc (Ru_C (HJ.out.fact (i := 0) rfl)).2.2 _) HCJ.out
    have HALL : Aside0 (∀ y ∈ [Q, Q, pb ++ Q], Bytes y ∧ y.length ≤ 1000) := ⟨by
      have hh := HPL.out
      have h2 := HPN.out
      have h3 := HQL.out
      intro y hy
      simp only [List.mem_cons, List.not_mem_nil, or_false] at hy
      rcases hy with rfl | rfl | rfl
      · exact ⟨HEF.out.1, by have := HEF.out.2; omega⟩
      · exact ⟨HLB.out, by omega⟩
      · exact ⟨hh.2.append HLB.out, by rw [List.length_append]; omega⟩⟩
    try rw [hg0]
    generalize x1.alloc (.cells #[.slice Ae ql ce, .slice Aq ql cq, .slice Aj jl cj] 39) = X at *
    obtain ⟨LL, hLL⟩ : ∃ LL, [Q, Q, pb ++ Q] = LL := ⟨_, rfl⟩
    have H3L : Aside0 (LL.length = 3) := ⟨by rw [← hLL]; rfl⟩
    rw [hLL] at HC3 HALL
    have HFL : Aside0 (∀ z, Below X.heap.size X z → (Kd.slice 5 (Kd.int .u8)).C z (some ⟨g0, 0, none⟩) 3 LL) := ⟨fun z hz => Kd.C_below HC3 hz⟩
    clear hLL HC3 HJ hg0
    go_loopw [83] (fun v83 wr => ∃ j : Nat, j ≤ 3 ∧ v83 = .int .i64 j ∧ Aside0 (Below X.heap.size X wr)) (fun v83 _ => 3 - (intOf v83).toNat)
    case atStart => exact ⟨0, by omega, rfl, ⟨Below.refl _ _⟩⟩
    case round =>
      obtain ⟨j, hj, rfl, HR⟩ := hrel
      by_cases hlt : j < 3
      · have d1 : decide (j < 3) = true := decide_eq_true hlt
        have hj3 : (j : Int) < 3 := by omega
        have hj0 : (0 : Int) ≤ j := by omega
        obtain ⟨Ax, cx, hcell, hcx, hCx⟩ := rows_at (HFL.out wr HR.out) j (by have := H3L.out; omega)
        obtain ⟨q, hq⟩ : ∃ q, LL[j]'(by have := H3L.out; omega) = q := ⟨_, rfl⟩
        have HBQ := Aside0.mk (HALL.out q (by rw [← hq]; exact List.getElem_mem _))
        rw [hq] at hcell hcx hCx
        obtain ⟨xl, hxl⟩ : ∃ xl, q.length = xl := ⟨_, rfl⟩
        have HXL := Aside0.mk hxl
        rw [hxl] at hcell hcx hCx
        have HFX : Aside0 (∀ z, Below wr.heap.size wr z → (Kd.int .u8).C z Ax xl q) := ⟨fun z hz => Kd.C_below hCx hz⟩
        have HCX := Aside0.mk hcx
        clear hcx hCx hq hxl
        go_wp2_with fail
        clear hcell
        refine (parse_any Ax xl cx q wr (HFX.out wr (Below.refl _ _)) (by have := HBQ.out.2; have := HXL.out; omega) HBQ.out.1).mono ?_
        rintro e y1 ⟨hp1, hby1⟩
        obtain ⟨A5, n5, c5, A6, n6, c6, rfl, hD1⟩ := parse_form hp1
        clear hp1
        obtain ⟨g16, hg16⟩ : ∃ g16, y1.heap.size = g16 := ⟨_, rfl⟩
        have hY1 : Below wr.heap.size wr (y1.alloc (.cells #[.int .u32 (tkQ q), .int .u32 (hsQ q), .slice A5 n5 c5, .slice A6 n6 c6] 41)) := below_alloc hby1 _
        have hb_g16 : (y1.alloc (.cells #[.int .u32 (tkQ q), .int .u32 (hsQ q), .slice A5 n5 c5, .slice A6 n6 c6] 41)).heap[g16]? = some (.cells #[.int .u32 (tkQ q), .int .u32 (hsQ q), .slice A5 n5 c5, .slice A6 n6 c6] 41 (0, 0)) := by subst hg16; exact blk_new _ _
        have hD2 := hD1.below (below_alloc (Below.refl _ _) (.cells #[.int .u32 (tkQ q), .int .u32 (hsQ q), .slice A5 n5 c5, .slice A6 n6 c6] 41))
        have HY1 := Aside0.mk hY1
        have HD2 := Aside0.mk (And.intro hD2 hb_g16)
        clear hby1 hD1 hY1 hD2 hb_g16
        go_wp2_with fail
        try rw [hg16]
        clear hg16
        generalize y1.alloc (.cells #[.int .u32 (tkQ q), .int .u32 (hsQ q), .slice A5 n5 c5, .slice A6 n6 c6] 41) = Y at *
        refine (rparse_any Ax xl cx q Y (HFX.out Y HY1.out) HCX.out (by have := HBQ.out.2; have := HXL.out; omega) HBQ.out.1).mono ?_
        rintro e y2 ⟨hp2, hby2⟩
        obtain ⟨A7, n7, c7, A8, n8, c8, rfl, hR1⟩ := rparse_form hp2
        clear hp2
        obtain ⟨g18, hg18⟩ : ∃ g18, y2.heap.size = g18 := ⟨_, rfl⟩
        have hbY : Below Y.heap.size Y (y2.alloc (.cells #[.int .u32 (tkQ q), .int .u32 (hsQ q), .slice A7 n7 c7, .slice A8 n8 c8] 58)) := below_alloc hby2 _
        have HX3 : Aside0 (Below X.heap.size X (y2.alloc (.cells #[.int .u32 (tkQ q), .int .u32 (hsQ q), .slice A7 n7 c7, .slice A8 n8 c8] 58))) := ⟨(HR.out.trans (HY1.out.mono HR.out.size)).trans (hbY.mono (Nat.le_trans HR.out.size HY1.out.size))⟩
        have hb_g18 : (y2.alloc (.cells #[.int .u32 (tkQ q), .int .u32 (hsQ q), .slice A7 n7 c7, .slice A8 n8 c8] 58)).heap[g18]? = some (.cells #[.int .u32 (tkQ q), .int .u32 (hsQ q), .slice A7 n7 c7, .slice A8 n8 c8] 58 (0, 0)) := by subst hg18; exact blk_new _ _
        have hb_g16 := blk_below HD2.out.2 hbY
        have HDQ := Aside0.mk (HD2.out.1.below hbY)
        have HRQ := Aside0.mk (hR1.below (below_alloc (Below.refl _ _) (.cells #[.int .u32 (tkQ q), .int .u32 (hsQ q), .slice A7 n7 c7, .slice A8 n8 c8] 58)))
        have HB3 := Aside0.mk (And.intro hb_g16 hb_g18)
        clear hby2 hR1 hbY hb_g16 hb_g18 HD2 HY1 HFX
        have HCL : Aside0 ((clQ q).length ≤ 1000000 ∧ ((clQ q).map toR).length ≤ 1000000) := ⟨by rw [List.length_map]; have := clQ_300 q HBQ.out.1; omega⟩
        obtain ⟨β, hβ⟩ : ∃ β, okD q = β := ⟨_, rfl⟩
        have HEC : ecD q = if β = true then 0 else 2 := by unfold ecD; rw [hβ]
        rw [hβ]
        cases β with
        | true =>
          rw [if_pos rfl] at HEC
          rw [HEC]
          clear HEC hβ
          go_wp2_with fail
          try rw [hg18]
          clear hg18
          generalize y2.alloc (.cells #[.int .u32 (tkQ q), .int .u32 (hsQ q), .slice A7 n7 c7, .slice A8 n8 c8] 58) = X3 at *
          have hb_g16 := HB3.out.1
          have hb_g18 := HB3.out.2
          have HG16 : Aside0 ((∀ z, Below X3.heap.size X3 z → z.cell? ⟨g16, 0, none⟩ = some (.int .u32 (tkQ q))) ∧ (∀ z, Below X3.heap.size X3 z → z.cell? ⟨g16, 1, none⟩ = some (.int .u32 (hsQ q))) ∧ (∀ z, Below X3.heap.size X3 z → z.cell? ⟨g16, 2, none⟩ = some (.slice A5 n5 c5)) ∧ (∀ z, Below X3.heap.size X3 z → z.cell? ⟨g16, 3, none⟩ = some (.slice A6 n6 c6))) := ⟨(fun z hz => blk_cell (blk_below hb_g16 hz) 0), (fun z hz => blk_cell (blk_below hb_g16 hz) 1), (fun z hz => blk_cell (blk_below hb_g16 hz) 2), (fun z hz => blk_cell (blk_below hb_g16 hz) 3)⟩
          have HG18 : Aside0 ((∀ z, Below X3.heap.size X3 z → z.cell? ⟨g18, 0, none⟩ = some (.int .u32 (tkQ q))) ∧ (∀ z, Below X3.heap.size X3 z → z.cell? ⟨g18, 1, none⟩ = some (.int .u32 (hsQ q))) ∧ (∀ z, Below X3.heap.size X3 z → z.cell? ⟨g18, 2, none⟩ = some (.slice A7 n7 c7)) ∧ (∀ z, Below X3.heap.size X3 z → z.cell? ⟨g18, 3, none⟩ = some (.slice A8 n8 c8))) := ⟨(fun z hz => blk_cell (blk_below hb_g18 hz) 0), (fun z hz => blk_cell (blk_below hb_g18 hz) 1), (fun z hz => blk_cell (blk_below hb_g18 hz) 2), (fun z hz => blk_cell (blk_below hb_g18 hz) 3)⟩
          clear hb_g16 hb_g18 HB3
          refine region_grown (W := X3)
            [fun (w : World) (v : Value) => v = .int .i64 0,
             fun (w : World) (v : Value) => v = .bool true,
             fun (w : World) (v : Value) => v = .bool true,
             fun (w : World) (v : Value) => v = .bool false,
             fun (w : World) (v : Value) => v = .bool false,
             fun (w : World) (v : Value) => v = .bool true,
             fun (w : World) (v : Value) => v = .bool false,
             fun (w : World) (v : Value) => v = .bool false,
             fun (w : World) (v : Value) => v = undef,
             fun (w : World) (v : Value) => v = undef,
             fun (w : World) (v : Value) => v = .bool false,
             fun (w : World) (v : Value) => v = .bool false,
             fun (w : World) (v : Value) => v = .bool false,
             fun (w : World) (v : Value) => v = .agg #[.int .u32 (tkQ q), .int .u32 (hsQ q), .slice A5 n5 c5, .slice A6 n6 c6],
             fun (w : World) (v : Value) => DrC w (tkQ q) (hsQ q) (plQ q) ((clQ q).map toR) v,
             fun (w : World) (v : Value) => v = .agg #[.int .u32 (tkQ q), .int .u32 (hsQ q), .slice A7 n7 c7, .slice A8 n8 c8],
             fun (w : World) (v : Value) => v = .bool true,
             fun (w : World) (v : Value) => v = .bool false,
             fun (w : World) (v : Value) => v = .bool false]
            (fun j => if j = 4 then some false else if j = 7 then some false else if j = 12 then some false else none)
            [(0, some 97), (1, some 98), (2, some 99), (3, some 100), (4, some 101), (5, some 102), (6, some 103), (7, some 104), (8, some 105), (9, some 106), (10, some 107), (11, some 108), (12, some 109), (13, some 110), (14, some 111), (15, some 112), (16, some 113), (17, some 114), (18, some 115)]
            [4, 7, 12]
            (by kernel_rfl) (by kernel_rfl) (by kernel_rfl) (by kernel_rfl) ?r20_1g ?r20_1s ⟨?r20_1o0, ?r20_1o1, ?r20_1o2, ?r20_1o3, ?r20_1o4, ?r20_1o5, ?r20_1o6, ?r20_1o7, ?r20_1o8, ?r20_1o9, ?r20_1o10, ?r20_1o11, ?r20_1o12, ?r20_1o13, ?r20_1o14, ?r20_1o15, ?r20_1o16, ?r20_1o17, ?r20_1o18, trivial⟩ ?r20_1e
          case r20_1g =>
            intro j hj w v hv
            simp only [List.mem_cons, List.not_mem_nil, or_false] at hj
            rcases hj with rfl | rfl | rfl
            · have hv' : v = .bool false := hv; rw [hv']; rfl
            · have hv' : v = .bool false := hv; rw [hv']; rfl
            · have hv' : v = .bool false := hv; rw [hv']; rfl
          case r20_1s =>
            refine ⟨(fun w w' v hb h => h), (fun w w' v hb h => h), (fun w w' v hb h => h), (fun w w' v hb h => h), (fun w w' v hb h => h), (fun w w' v hb h => h), (fun w w' v hb h => h), (fun w w' v hb h => h), (fun w w' v hb h => h), (fun w w' v hb h => h), (fun w w' v hb h => h), (fun w w' v hb h => h), (fun w w' v hb h => h), (fun w w' v hb h => h), (fun w w' v hb h => h.below hb), (fun w w' v hb h => h), (fun w w' v hb h => h), (fun w w' v hb h => h), (fun w w' v hb h => h), trivial⟩
          case r20_1o0 =>
            intro vs w hb hV
            rw [if_pos (by kernel_rfl)]
            generalize hρ : rho _ _ _ vs = ρ
            have e17 : ρ (.tmp 17) = .int .i64 0 := by rw [← hρ]; kernel_rfl
            clear hρ hV
            refine runs_val (v := .int .i64 0) (w' := w) ?_ ⟨Below.refl _ _, rfl⟩
            go_simp <;> (first | exact IntWalk.u64_in _ (by omega) | exact IntWalk.u32_in _ (by omega) | exact IntWalk.u16_in _ (by omega) | exact IntWalk.u8_in _ (by omega) | exact IntWalk.i64_in _ (by omega) | skip)
          case r20_1o1 =>
            intro vs w hb hV
            rw [if_pos (by kernel_rfl)]
            generalize hρ : rho _ _ _ vs = ρ
            have d97 : (vs 0) = .int .i64 0 := hV 0 (by kernel_rfl)
            have e97 : ρ (.tmp 97) = vs 0 := by rw [← hρ]; kernel_rfl
            rw [d97] at e97; clear d97
            have econ : ∀ v : Value, ρ (.const v) = v := fun v => by rw [← hρ]; rfl
            clear hρ hV
            refine runs_val (v := .bool true) (w' := w) ?_ ⟨Below.refl _ _, rfl⟩
            go_simp <;> (first | exact IntWalk.u64_in _ (by omega) | exact IntWalk.u32_in _ (by omega) | exact IntWalk.u16_in _ (by omega) | exact IntWalk.u8_in _ (by omega) | exact IntWalk.i64_in _ (by omega) | skip)
          case r20_1o2 =>
            intro vs w hb hV
            rw [if_pos (by kernel_rfl)]
            generalize hρ : rho _ _ _ vs = ρ
            have e19 : ρ (.tmp 19) = .bool true := by rw [← hρ]; kernel_rfl
            clear hρ hV
            refine runs_val (v := .bool true) (w' := w) ?_ ⟨Below.refl _ _, rfl⟩
            go_simp <;> (first | exact IntWalk.u64_in _ (by omega) | exact IntWalk.u32_in _ (by omega) | exact IntWalk.u16_in _ (by omega) | exact IntWalk.u8_in _ (by omega) | exact IntWalk.i64_in _ (by omega) | skip)
          case r20_1o3 =>
            intro vs w hb hV
            rw [if_pos (by kernel_rfl)]
            generalize hρ : rho _ _ _ vs = ρ
            have d98 : (vs 1) = .bool true := hV 1 (by kernel_rfl)
            have e98 : ρ (.tmp 98) = vs 1 := by rw [← hρ]; kernel_rfl
            rw [d98] at e98; clear d98
            have d99 : (vs 2) = .bool true := hV 2 (by kernel_rfl)
            have e99 : ρ (.tmp 99) = vs 2 := by rw [← hρ]; kernel_rfl
            rw [d99] at e99; clear d99
            clear hρ hV
            refine runs_val (v := .bool false) (w' := w) ?_ ⟨Below.refl _ _, rfl⟩
            go_simp <;> (first | exact IntWalk.u64_in _ (by omega) | exact IntWalk.u32_in _ (by omega) | exact IntWalk.u16_in _ (by omega) | exact IntWalk.u8_in _ (by omega) | exact IntWalk.i64_in _ (by omega) | skip)
          case r20_1o4 =>
            intro vs w hb hV
            rw [if_pos (by kernel_rfl)]
            generalize hρ : rho _ _ _ vs = ρ
            have d100 : (vs 3) = .bool false := hV 3 (by kernel_rfl)
            have e100 : ρ (.tmp 100) = vs 3 := by rw [← hρ]; kernel_rfl
            clear hρ hV
            refine runs_val (v := vs 3) (w' := w) ?_ ⟨Below.refl _ _, d100⟩
            go_simp
          case r20_1o5 =>
            intro vs w hb hV
            rw [if_pos (by kernel_rfl)]
            generalize hρ : rho _ _ _ vs = ρ
            have e19 : ρ (.tmp 19) = .bool true := by rw [← hρ]; kernel_rfl
            clear hρ hV
            refine runs_val (v := .bool true) (w' := w) ?_ ⟨Below.refl _ _, rfl⟩
            go_simp <;> (first | exact IntWalk.u64_in _ (by omega) | exact IntWalk.u32_in _ (by omega) | exact IntWalk.u16_in _ (by omega) | exact IntWalk.u8_in _ (by omega) | exact IntWalk.i64_in _ (by omega) | skip)
          case r20_1o6 =>
            intro vs w hb hV
            rw [if_pos (by kernel_rfl)]
            generalize hρ : rho _ _ _ vs = ρ
            have d102 : (vs 5) = .bool true := hV 5 (by kernel_rfl)
            have e102 : ρ (.tmp 102) = vs 5 := by rw [← hρ]; kernel_rfl
            rw [d102] at e102; clear d102
            clear hρ hV
            refine runs_val (v := .bool false) (w' := w) ?_ ⟨Below.refl _ _, rfl⟩
            go_simp <;> (first | exact IntWalk.u64_in _ (by omega) | exact IntWalk.u32_in _ (by omega) | exact IntWalk.u16_in _ (by omega) | exact IntWalk.u8_in _ (by omega) | exact IntWalk.i64_in _ (by omega) | skip)
          case r20_1o7 =>
            intro vs w hb hV
            rw [if_pos (by kernel_rfl)]
            generalize hρ : rho _ _ _ vs = ρ
            have d103 : (vs 6) = .bool false := hV 6 (by kernel_rfl)
            have e103 : ρ (.tmp 103) = vs 6 := by rw [← hρ]; kernel_rfl
            clear hρ hV
            refine runs_val (v := vs 6) (w' := w) ?_ ⟨Below.refl _ _, d103⟩
            go_simp
          case r20_1o8 =>
            intro vs w hb hV
            (rw [if_neg (by decide)]) <;> exact rfl
          case r20_1o9 =>
            intro vs w hb hV
            (rw [if_neg (by decide)]) <;> exact rfl
          case r20_1o10 =>
            intro vs w hb hV
            rw [if_pos (by kernel_rfl)]
            generalize hρ : rho _ _ _ vs = ρ
            have d104 : (vs 7) = .bool false := hV 7 (by kernel_rfl)
            have e104 : ρ (.tmp 104) = vs 7 := by rw [← hρ]; kernel_rfl
            rw [d104] at e104; clear d104
            have d106 : (vs 9) = undef := hV 9 (by kernel_rfl)
            have e106 : ρ (.tmp 106) = vs 9 := by rw [← hρ]; kernel_rfl
            rw [d106] at e106; clear d106
            have econ : ∀ v : Value, ρ (.const v) = v := fun v => by rw [← hρ]; rfl
            clear hρ hV
            refine runs_val (v := .bool false) (w' := w) ?_ ⟨Below.refl _ _, rfl⟩
            go_simp <;> (first | exact IntWalk.u64_in _ (by omega) | exact IntWalk.u32_in _ (by omega) | exact IntWalk.u16_in _ (by omega) | exact IntWalk.u8_in _ (by omega) | exact IntWalk.i64_in _ (by omega) | skip)
          case r20_1o11 =>
            intro vs w hb hV
            rw [if_pos (by kernel_rfl)]
            generalize hρ : rho _ _ _ vs = ρ
            have d101 : (vs 4) = .bool false := hV 4 (by kernel_rfl)
            have e101 : ρ (.tmp 101) = vs 4 := by rw [← hρ]; kernel_rfl
            rw [d101] at e101; clear d101
            have d107 : (vs 10) = .bool false := hV 10 (by kernel_rfl)
            have e107 : ρ (.tmp 107) = vs 10 := by rw [← hρ]; kernel_rfl
            rw [d107] at e107; clear d107
            have econ : ∀ v : Value, ρ (.const v) = v := fun v => by rw [← hρ]; rfl
            clear hρ hV
            refine runs_val (v := .bool false) (w' := w) ?_ ⟨Below.refl _ _, rfl⟩
            go_simp <;> (first | exact IntWalk.u64_in _ (by omega) | exact IntWalk.u32_in _ (by omega) | exact IntWalk.u16_in _ (by omega) | exact IntWalk.u8_in _ (by omega) | exact IntWalk.i64_in _ (by omega) | skip)
          case r20_1o12 =>
            intro vs w hb hV
            rw [if_pos (by kernel_rfl)]
            generalize hρ : rho _ _ _ vs = ρ
            have d108 : (vs 11) = .bool false := hV 11 (by kernel_rfl)
            have e108 : ρ (.tmp 108) = vs 11 := by rw [← hρ]; kernel_rfl
            clear hρ hV
            refine runs_val (v := vs 11) (w' := w) ?_ ⟨Below.refl _ _, d108⟩
            go_simp
          case r20_1o13 =>
            intro vs w hb hV
            rw [if_pos (by kernel_rfl)]
            generalize hρ : rho _ _ _ vs = ρ
            have e16 : ρ (.tmp 16) = .pointer (some ⟨g16, 0, none⟩) := by rw [← hρ]; kernel_rfl
            clear hρ hV
            have c0 := HG16.out.1 w hb
            have c1 := HG16.out.2.1 w hb
            have c2 := HG16.out.2.2.1 w hb
            have c3 := HG16.out.2.2.2 w hb
            refine runs_val (v := .agg #[.int .u32 (tkQ q), .int .u32 (hsQ q), .slice A5 n5 c5, .slice A6 n6 c6]) (w' := w) ?_ ⟨Below.refl _ _, rfl⟩
            go_simp
          case r20_1o14 =>
            intro vs w hb hV
            rw [if_pos (by kernel_rfl)]
            generalize hρ : rho _ _ _ vs = ρ
            have d110 : (vs 13) = .agg #[.int .u32 (tkQ q), .int .u32 (hsQ q), .slice A5 n5 c5, .slice A6 n6 c6] := hV 13 (by kernel_rfl)
            have e110 : ρ (.tmp 110) = vs 13 := by rw [← hρ]; kernel_rfl
            rw [d110] at e110; clear d110
            have ef22 : ρ (.func 22) = .func (.func 22) #[] #[] := by rw [← hρ]; rfl
            clear hρ hV
            refine runs_call (f := 22) (args := #[.agg #[.int .u32 (tkQ q), .int .u32 (hsQ q), .slice A5 n5 c5, .slice A6 n6 c6]]) (w' := w) ?_ ?_
            · go_simp
            · refine (own7_any _ _ _ _ _ w (HDQ.out.below hb) HCL.out.1).mono ?_
              rintro e w5 ⟨v, rfl, hv, hb5⟩
              exact ⟨_, rfl, hb5, hv⟩
          case r20_1o15 =>
            intro vs w hb hV
            rw [if_pos (by kernel_rfl)]
            generalize hρ : rho _ _ _ vs = ρ
            have e18 : ρ (.tmp 18) = .pointer (some ⟨g18, 0, none⟩) := by rw [← hρ]; kernel_rfl
            clear hρ hV
            have c0 := HG18.out.1 w hb
            have c1 := HG18.out.2.1 w hb
            have c2 := HG18.out.2.2.1 w hb
            have c3 := HG18.out.2.2.2 w hb
            refine runs_val (v := .agg #[.int .u32 (tkQ q), .int .u32 (hsQ q), .slice A7 n7 c7, .slice A8 n8 c8]) (w' := w) ?_ ⟨Below.refl _ _, rfl⟩
            go_simp
          case r20_1o16 =>
            intro vs w hb hV
            rw [if_pos (by kernel_rfl)]
            generalize hρ : rho _ _ _ vs = ρ
            have d111 : (fun (w : World) (v : Value) => DrC w (tkQ q) (hsQ q) (plQ q) ((clQ q).map toR) v) w (vs 14) := hV 14 (by kernel_rfl)
            have e111 : ρ (.tmp 111) = vs 14 := by rw [← hρ]; kernel_rfl
            have d112 : (vs 15) = .agg #[.int .u32 (tkQ q), .int .u32 (hsQ q), .slice A7 n7 c7, .slice A8 n8 c8] := hV 15 (by kernel_rfl)
            have e112 : ρ (.tmp 112) = vs 15 := by rw [← hρ]; kernel_rfl
            rw [d112] at e112; clear d112
            have ef21 : ρ (.func 21) = .func (.func 21) #[] #[] := by rw [← hρ]; rfl
            clear hρ hV
            refine runs_call (f := 21) (args := #[vs 14, .agg #[.int .u32 (tkQ q), .int .u32 (hsQ q), .slice A7 n7 c7, .slice A8 n8 c8]]) (w' := w) ?_ ?_
            · go_simp
            · refine (rsame7_any _ _ _ _ _ _ w d111 (HRQ.out.below hb) HCL.out.2).mono ?_
              rintro e w5 ⟨rfl, hb5⟩
              exact ⟨_, rfl, hb5, rfl⟩
          case r20_1o17 =>
            intro vs w hb hV
            rw [if_pos (by kernel_rfl)]
            generalize hρ : rho _ _ _ vs = ρ
            have d113 : (vs 16) = .bool true := hV 16 (by kernel_rfl)
            have e113 : ρ (.tmp 113) = vs 16 := by rw [← hρ]; kernel_rfl
            rw [d113] at e113; clear d113
            clear hρ hV
            refine runs_val (v := .bool false) (w' := w) ?_ ⟨Below.refl _ _, rfl⟩
            go_simp <;> (first | exact IntWalk.u64_in _ (by omega) | exact IntWalk.u32_in _ (by omega) | exact IntWalk.u16_in _ (by omega) | exact IntWalk.u8_in _ (by omega) | exact IntWalk.i64_in _ (by omega) | skip)
          case r20_1o18 =>
            intro vs w hb hV
            rw [if_pos (by kernel_rfl)]
            generalize hρ : rho _ _ _ vs = ρ
            have d109 : (vs 12) = .bool false := hV 12 (by kernel_rfl)
            have e109 : ρ (.tmp 109) = vs 12 := by rw [← hρ]; kernel_rfl
            rw [d109] at e109; clear d109
            have d114 : (vs 17) = .bool false := hV 17 (by kernel_rfl)
            have e114 : ρ (.tmp 114) = vs 17 := by rw [← hρ]; kernel_rfl
            rw [d114] at e114; clear d114
            have econ : ∀ v : Value, ρ (.const v) = v := fun v => by rw [← hρ]; rfl
            clear hρ hV
            refine runs_val (v := .bool false) (w' := w) ?_ ⟨Below.refl _ _, rfl⟩
            go_simp <;> (first | exact IntWalk.u64_in _ (by omega) | exact IntWalk.u32_in _ (by omega) | exact IntWalk.u16_in _ (by omega) | exact IntWalk.u8_in _ (by omega) | exact IntWalk.i64_in _ (by omega) | skip)
          case r20_1e =>
            intro vs X4 hb4 hV
            have d97 : (vs 0) = .int .i64 0 := hV 0 (Nat.le_of_ble_eq_true rfl)
            have d98 : (vs 1) = .bool true := hV 1 (Nat.le_of_ble_eq_true rfl)
            have d99 : (vs 2) = .bool true := hV 2 (Nat.le_of_ble_eq_true rfl)
            have d100 : (vs 3) = .bool false := hV 3 (Nat.le_of_ble_eq_true rfl)
            have d101 : (vs 4) = .bool false := hV 4 (Nat.le_of_ble_eq_true rfl)
            have d102 : (vs 5) = .bool true := hV 5 (Nat.le_of_ble_eq_true rfl)
            have d103 : (vs 6) = .bool false := hV 6 (Nat.le_of_ble_eq_true rfl)
            have d104 : (vs 7) = .bool false := hV 7 (Nat.le_of_ble_eq_true rfl)
            have d105 : (vs 8) = undef := hV 8 (Nat.le_of_ble_eq_true rfl)
            have d106 : (vs 9) = undef := hV 9 (Nat.le_of_ble_eq_true rfl)
            have d107 : (vs 10) = .bool false := hV 10 (Nat.le_of_ble_eq_true rfl)
            have d108 : (vs 11) = .bool false := hV 11 (Nat.le_of_ble_eq_true rfl)
            have d109 : (vs 12) = .bool false := hV 12 (Nat.le_of_ble_eq_true rfl)
            have d110 : (vs 13) = .agg #[.int .u32 (tkQ q), .int .u32 (hsQ q), .slice A5 n5 c5, .slice A6 n6 c6] := hV 13 (Nat.le_of_ble_eq_true rfl)
            have d111 : (fun (w : World) (v : Value) => DrC w (tkQ q) (hsQ q) (plQ q) ((clQ q).map toR) v) X4 (vs 14) := hV 14 (Nat.le_of_ble_eq_true rfl)
            have d112 : (vs 15) = .agg #[.int .u32 (tkQ q), .int .u32 (hsQ q), .slice A7 n7 c7, .slice A8 n8 c8] := hV 15 (Nat.le_of_ble_eq_true rfl)
            have d113 : (vs 16) = .bool true := hV 16 (Nat.le_of_ble_eq_true rfl)
            have d114 : (vs 17) = .bool false := hV 17 (Nat.le_of_ble_eq_true rfl)
            have d115 : (vs 18) = .bool false := hV 18 (Nat.le_of_ble_eq_true rfl)
            clear hV
            simp only [putAll]
            rw [d97, d98, d99, d100, d101, d102, d103, d104, d105, d106, d107, d108, d109, d110, d112, d113, d114, d115]
            clear d97 d98 d99 d100 d101 d102 d103 d104 d105 d106 d107 d108 d109 d110 d112 d113 d114 d115
            generalize vs 14 = v111 at *
            clear vs
            simp only [Act.put, List.setIfInBounds_toArray, List.set_cons_zero, List.set_cons_succ]
            have HX4 : Aside0 (Below X.heap.size X X4) := ⟨HX3.out.trans (hb4.mono HX3.out.size)⟩
            clear hb4 d111 HX3
            go_wp2_with fail
            go_roundw
            case rel => exact ⟨j + 1, by omega, rfl, HX4⟩
            case measure => simp only [intOf]; omega
        | false =>
          rw [if_neg (by decide)] at HEC
          rw [HEC]
          clear HEC hβ
          go_wp2_with fail
          try rw [hg18]
          clear hg18
          generalize y2.alloc (.cells #[.int .u32 (tkQ q), .int .u32 (hsQ q), .slice A7 n7 c7, .slice A8 n8 c8] 58) = X3 at *
          have hb_g16 := HB3.out.1
          have hb_g18 := HB3.out.2
          have HG16 : Aside0 ((∀ z, Below X3.heap.size X3 z → z.cell? ⟨g16, 0, none⟩ = some (.int .u32 (tkQ q))) ∧ (∀ z, Below X3.heap.size X3 z → z.cell? ⟨g16, 1, none⟩ = some (.int .u32 (hsQ q))) ∧ (∀ z, Below X3.heap.size X3 z → z.cell? ⟨g16, 2, none⟩ = some (.slice A5 n5 c5)) ∧ (∀ z, Below X3.heap.size X3 z → z.cell? ⟨g16, 3, none⟩ = some (.slice A6 n6 c6))) := ⟨(fun z hz => blk_cell (blk_below hb_g16 hz) 0), (fun z hz => blk_cell (blk_below hb_g16 hz) 1), (fun z hz => blk_cell (blk_below hb_g16 hz) 2), (fun z hz => blk_cell (blk_below hb_g16 hz) 3)⟩
          have HG18 : Aside0 ((∀ z, Below X3.heap.size X3 z → z.cell? ⟨g18, 0, none⟩ = some (.int .u32 (tkQ q))) ∧ (∀ z, Below X3.heap.size X3 z → z.cell? ⟨g18, 1, none⟩ = some (.int .u32 (hsQ q))) ∧ (∀ z, Below X3.heap.size X3 z → z.cell? ⟨g18, 2, none⟩ = some (.slice A7 n7 c7)) ∧ (∀ z, Below X3.heap.size X3 z → z.cell? ⟨g18, 3, none⟩ = some (.slice A8 n8 c8))) := ⟨(fun z hz => blk_cell (blk_below hb_g18 hz) 0), (fun z hz => blk_cell (blk_below hb_g18 hz) 1), (fun z hz => blk_cell (blk_below hb_g18 hz) 2), (fun z hz => blk_cell (blk_below hb_g18 hz) 3)⟩
          clear hb_g16 hb_g18 HB3
          refine region_grown (W := X3)
            [fun (w : World) (v : Value) => v = .int .i64 2,
             fun (w : World) (v : Value) => v = .bool false,
             fun (w : World) (v : Value) => v = .bool false,
             fun (w : World) (v : Value) => v = .bool false,
             fun (w : World) (v : Value) => v = .bool false,
             fun (w : World) (v : Value) => v = .bool false,
             fun (w : World) (v : Value) => v = .bool true,
             fun (w : World) (v : Value) => v = .bool true,
             fun (w : World) (v : Value) => v = .int .i64 2,
             fun (w : World) (v : Value) => v = .bool false,
             fun (w : World) (v : Value) => v = .bool false,
             fun (w : World) (v : Value) => v = .bool false,
             fun (w : World) (v : Value) => v = .bool false,
             fun (w : World) (v : Value) => v = .agg #[.int .u32 (tkQ q), .int .u32 (hsQ q), .slice A5 n5 c5, .slice A6 n6 c6],
             fun (w : World) (v : Value) => DrC w (tkQ q) (hsQ q) (plQ q) ((clQ q).map toR) v,
             fun (w : World) (v : Value) => v = .agg #[.int .u32 (tkQ q), .int .u32 (hsQ q), .slice A7 n7 c7, .slice A8 n8 c8],
             fun (w : World) (v : Value) => v = .bool true,
             fun (w : World) (v : Value) => v = .bool false,
             fun (w : World) (v : Value) => v = .bool false]
            (fun j => if j = 4 then some false else if j = 7 then some true else if j = 12 then some false else none)
            [(0, some 97), (1, some 98), (2, some 99), (3, some 100), (4, some 101), (5, some 102), (6, some 103), (7, some 104), (8, some 105), (9, some 106), (10, some 107), (11, some 108), (12, some 109), (13, some 110), (14, some 111), (15, some 112), (16, some 113), (17, some 114), (18, some 115)]
            [4, 7, 12]
            (by kernel_rfl) (by kernel_rfl) (by kernel_rfl) (by kernel_rfl) ?r20_2g ?r20_2s ⟨?r20_2o0, ?r20_2o1, ?r20_2o2, ?r20_2o3, ?r20_2o4, ?r20_2o5, ?r20_2o6, ?r20_2o7, ?r20_2o8, ?r20_2o9, ?r20_2o10, ?r20_2o11, ?r20_2o12, ?r20_2o13, ?r20_2o14, ?r20_2o15, ?r20_2o16, ?r20_2o17, ?r20_2o18, trivial⟩ ?r20_2e
          case r20_2g =>
            intro j hj w v hv
            simp only [List.mem_cons, List.not_mem_nil, or_false] at hj
            rcases hj with rfl | rfl | rfl
            · have hv' : v = .bool false := hv; rw [hv']; rfl
            · have hv' : v = .bool true := hv; rw [hv']; rfl
            · have hv' : v = .bool false := hv; rw [hv']; rfl
          case r20_2s =>
            refine ⟨(fun w w' v hb h => h), (fun w w' v hb h => h), (fun w w' v hb h => h), (fun w w' v hb h => h), (fun w w' v hb h => h), (fun w w' v hb h => h), (fun w w' v hb h => h), (fun w w' v hb h => h), (fun w w' v hb h => h), (fun w w' v hb h => h), (fun w w' v hb h => h), (fun w w' v hb h => h), (fun w w' v hb h => h), (fun w w' v hb h => h), (fun w w' v hb h => h.below hb), (fun w w' v hb h => h), (fun w w' v hb h => h), (fun w w' v hb h => h), (fun w w' v hb h => h), trivial⟩
          case r20_2o0 =>
            intro vs w hb hV
            rw [if_pos (by kernel_rfl)]
            generalize hρ : rho _ _ _ vs = ρ
            have e17 : ρ (.tmp 17) = .int .i64 2 := by rw [← hρ]; kernel_rfl
            clear hρ hV
            refine runs_val (v := .int .i64 2) (w' := w) ?_ ⟨Below.refl _ _, rfl⟩
            go_simp <;> (first | exact IntWalk.u64_in _ (by omega) | exact IntWalk.u32_in _ (by omega) | exact IntWalk.u16_in _ (by omega) | exact IntWalk.u8_in _ (by omega) | exact IntWalk.i64_in _ (by omega) | skip)
          case r20_2o1 =>
            intro vs w hb hV
            rw [if_pos (by kernel_rfl)]
            generalize hρ : rho _ _ _ vs = ρ
            have d97 : (vs 0) = .int .i64 2 := hV 0 (by kernel_rfl)
            have e97 : ρ (.tmp 97) = vs 0 := by rw [← hρ]; kernel_rfl
            rw [d97] at e97; clear d97
            have econ : ∀ v : Value, ρ (.const v) = v := fun v => by rw [← hρ]; rfl
            clear hρ hV
            refine runs_val (v := .bool false) (w' := w) ?_ ⟨Below.refl _ _, rfl⟩
            go_simp <;> (first | exact IntWalk.u64_in _ (by omega) | exact IntWalk.u32_in _ (by omega) | exact IntWalk.u16_in _ (by omega) | exact IntWalk.u8_in _ (by omega) | exact IntWalk.i64_in _ (by omega) | skip)
          case r20_2o2 =>
            intro vs w hb hV
            rw [if_pos (by kernel_rfl)]
            generalize hρ : rho _ _ _ vs = ρ
            have e19 : ρ (.tmp 19) = .bool false := by rw [← hρ]; kernel_rfl
            clear hρ hV
            refine runs_val (v := .bool false) (w' := w) ?_ ⟨Below.refl _ _, rfl⟩
            go_simp <;> (first | exact IntWalk.u64_in _ (by omega) | exact IntWalk.u32_in _ (by omega) | exact IntWalk.u16_in _ (by omega) | exact IntWalk.u8_in _ (by omega) | exact IntWalk.i64_in _ (by omega) | skip)
          case r20_2o3 =>
            intro vs w hb hV
            rw [if_pos (by kernel_rfl)]
            generalize hρ : rho _ _ _ vs = ρ
            have d98 : (vs 1) = .bool false := hV 1 (by kernel_rfl)
            have e98 : ρ (.tmp 98) = vs 1 := by rw [← hρ]; kernel_rfl
            rw [d98] at e98; clear d98
            have d99 : (vs 2) = .bool false := hV 2 (by kernel_rfl)
            have e99 : ρ (.tmp 99) = vs 2 := by rw [← hρ]; kernel_rfl
            rw [d99] at e99; clear d99
            clear hρ hV
            refine runs_val (v := .bool false) (w' := w) ?_ ⟨Below.refl _ _, rfl⟩
            go_simp <;> (first | exact IntWalk.u64_in _ (by omega) | exact IntWalk.u32_in _ (by omega) | exact IntWalk.u16_in _ (by omega) | exact IntWalk.u8_in _ (by omega) | exact IntWalk.i64_in _ (by omega) | skip)
          case r20_2o4 =>
            intro vs w hb hV
            rw [if_pos (by kernel_rfl)]
            generalize hρ : rho _ _ _ vs = ρ
            have d100 : (vs 3) = .bool false := hV 3 (by kernel_rfl)
            have e100 : ρ (.tmp 100) = vs 3 := by rw [← hρ]; kernel_rfl
            clear hρ hV
            refine runs_val (v := vs 3) (w' := w) ?_ ⟨Below.refl _ _, d100⟩
            go_simp
          case r20_2o5 =>
            intro vs w hb hV
            rw [if_pos (by kernel_rfl)]
            generalize hρ : rho _ _ _ vs = ρ
            have e19 : ρ (.tmp 19) = .bool false := by rw [← hρ]; kernel_rfl
            clear hρ hV
            refine runs_val (v := .bool false) (w' := w) ?_ ⟨Below.refl _ _, rfl⟩
            go_simp <;> (first | exact IntWalk.u64_in _ (by omega) | exact IntWalk.u32_in _ (by omega) | exact IntWalk.u16_in _ (by omega) | exact IntWalk.u8_in _ (by omega) | exact IntWalk.i64_in _ (by omega) | skip)
          case r20_2o6 =>
            intro vs w hb hV
            rw [if_pos (by kernel_rfl)]
            generalize hρ : rho _ _ _ vs = ρ
            have d102 : (vs 5) = .bool false := hV 5 (by kernel_rfl)
            have e102 : ρ (.tmp 102) = vs 5 := by rw [← hρ]; kernel_rfl
            rw [d102] at e102; clear d102
            clear hρ hV
            refine runs_val (v := .bool true) (w' := w) ?_ ⟨Below.refl _ _, rfl⟩
            go_simp <;> (first | exact IntWalk.u64_in _ (by omega) | exact IntWalk.u32_in _ (by omega) | exact IntWalk.u16_in _ (by omega) | exact IntWalk.u8_in _ (by omega) | exact IntWalk.i64_in _ (by omega) | skip)
          case r20_2o7 =>
            intro vs w hb hV
            rw [if_pos (by kernel_rfl)]
            generalize hρ : rho _ _ _ vs = ρ
            have d103 : (vs 6) = .bool true := hV 6 (by kernel_rfl)
            have e103 : ρ (.tmp 103) = vs 6 := by rw [← hρ]; kernel_rfl
            clear hρ hV
            refine runs_val (v := vs 6) (w' := w) ?_ ⟨Below.refl _ _, d103⟩
            go_simp
          case r20_2o8 =>
            intro vs w hb hV
            rw [if_pos (by kernel_rfl)]
            generalize hρ : rho _ _ _ vs = ρ
            have e17 : ρ (.tmp 17) = .int .i64 2 := by rw [← hρ]; kernel_rfl
            clear hρ hV
            refine runs_val (v := .int .i64 2) (w' := w) ?_ ⟨Below.refl _ _, rfl⟩
            go_simp <;> (first | exact IntWalk.u64_in _ (by omega) | exact IntWalk.u32_in _ (by omega) | exact IntWalk.u16_in _ (by omega) | exact IntWalk.u8_in _ (by omega) | exact IntWalk.i64_in _ (by omega) | skip)
          case r20_2o9 =>
            intro vs w hb hV
            rw [if_pos (by kernel_rfl)]
            generalize hρ : rho _ _ _ vs = ρ
            have d105 : (vs 8) = .int .i64 2 := hV 8 (by kernel_rfl)
            have e105 : ρ (.tmp 105) = vs 8 := by rw [← hρ]; kernel_rfl
            rw [d105] at e105; clear d105
            have econ : ∀ v : Value, ρ (.const v) = v := fun v => by rw [← hρ]; rfl
            clear hρ hV
            refine runs_val (v := .bool false) (w' := w) ?_ ⟨Below.refl _ _, rfl⟩
            go_simp <;> (first | exact IntWalk.u64_in _ (by omega) | exact IntWalk.u32_in _ (by omega) | exact IntWalk.u16_in _ (by omega) | exact IntWalk.u8_in _ (by omega) | exact IntWalk.i64_in _ (by omega) | skip)
          case r20_2o10 =>
            intro vs w hb hV
            rw [if_pos (by kernel_rfl)]
            generalize hρ : rho _ _ _ vs = ρ
            have d104 : (vs 7) = .bool true := hV 7 (by kernel_rfl)
            have e104 : ρ (.tmp 104) = vs 7 := by rw [← hρ]; kernel_rfl
            rw [d104] at e104; clear d104
            have d106 : (vs 9) = .bool false := hV 9 (by kernel_rfl)
            have e106 : ρ (.tmp 106) = vs 9 := by rw [← hρ]; kernel_rfl
            rw [d106] at e106; clear d106
            have econ : ∀ v : Value, ρ (.const v) = v := fun v => by rw [← hρ]; rfl
            clear hρ hV
            refine runs_val (v := .bool false) (w' := w) ?_ ⟨Below.refl _ _, rfl⟩
            go_simp <;> (first | exact IntWalk.u64_in _ (by omega) | exact IntWalk.u32_in _ (by omega) | exact IntWalk.u16_in _ (by omega) | exact IntWalk.u8_in _ (by omega) | exact IntWalk.i64_in _ (by omega) | skip)
          case r20_2o11 =>
            intro vs w hb hV
            rw [if_pos (by kernel_rfl)]
            generalize hρ : rho _ _ _ vs = ρ
            have d101 : (vs 4) = .bool false := hV 4 (by kernel_rfl)
            have e101 : ρ (.tmp 101) = vs 4 := by rw [← hρ]; kernel_rfl
            rw [d101] at e101; clear d101
            have d107 : (vs 10) = .bool false := hV 10 (by kernel_rfl)
            have e107 : ρ (.tmp 107) = vs 10 := by rw [← hρ]; kernel_rfl
            rw [d107] at e107; clear d107
            have econ : ∀ v : Value, ρ (.const v) = v := fun v => by rw [← hρ]; rfl
            clear hρ hV
            refine runs_val (v := .bool false) (w' := w) ?_ ⟨Below.refl _ _, rfl⟩
            go_simp <;> (first | exact IntWalk.u64_in _ (by omega) | exact IntWalk.u32_in _ (by omega) | exact IntWalk.u16_in _ (by omega) | exact IntWalk.u8_in _ (by omega) | exact IntWalk.i64_in _ (by omega) | skip)
          case r20_2o12 =>
            intro vs w hb hV
            rw [if_pos (by kernel_rfl)]
            generalize hρ : rho _ _ _ vs = ρ
            have d108 : (vs 11) = .bool false := hV 11 (by kernel_rfl)
            have e108 : ρ (.tmp 108) = vs 11 := by rw [← hρ]; kernel_rfl
            clear hρ hV
            refine runs_val (v := vs 11) (w' := w) ?_ ⟨Below.refl _ _, d108⟩
            go_simp
          case r20_2o13 =>
            intro vs w hb hV
            rw [if_pos (by kernel_rfl)]
            generalize hρ : rho _ _ _ vs = ρ
            have e16 : ρ (.tmp 16) = .pointer (some ⟨g16, 0, none⟩) := by rw [← hρ]; kernel_rfl
            clear hρ hV
            have c0 := HG16.out.1 w hb
            have c1 := HG16.out.2.1 w hb
            have c2 := HG16.out.2.2.1 w hb
            have c3 := HG16.out.2.2.2 w hb
            refine runs_val (v := .agg #[.int .u32 (tkQ q), .int .u32 (hsQ q), .slice A5 n5 c5, .slice A6 n6 c6]) (w' := w) ?_ ⟨Below.refl _ _, rfl⟩
            go_simp
          case r20_2o14 =>
            intro vs w hb hV
            rw [if_pos (by kernel_rfl)]
            generalize hρ : rho _ _ _ vs = ρ
            have d110 : (vs 13) = .agg #[.int .u32 (tkQ q), .int .u32 (hsQ q), .slice A5 n5 c5, .slice A6 n6 c6] := hV 13 (by kernel_rfl)
            have e110 : ρ (.tmp 110) = vs 13 := by rw [← hρ]; kernel_rfl
            rw [d110] at e110; clear d110
            have ef22 : ρ (.func 22) = .func (.func 22) #[] #[] := by rw [← hρ]; rfl
            clear hρ hV
            refine runs_call (f := 22) (args := #[.agg #[.int .u32 (tkQ q), .int .u32 (hsQ q), .slice A5 n5 c5, .slice A6 n6 c6]]) (w' := w) ?_ ?_
            · go_simp
            · refine (own7_any _ _ _ _ _ w (HDQ.out.below hb) HCL.out.1).mono ?_
              rintro e w5 ⟨v, rfl, hv, hb5⟩
              exact ⟨_, rfl, hb5, hv⟩
          case r20_2o15 =>
            intro vs w hb hV
            rw [if_pos (by kernel_rfl)]
            generalize hρ : rho _ _ _ vs = ρ
            have e18 : ρ (.tmp 18) = .pointer (some ⟨g18, 0, none⟩) := by rw [← hρ]; kernel_rfl
            clear hρ hV
            have c0 := HG18.out.1 w hb
            have c1 := HG18.out.2.1 w hb
            have c2 := HG18.out.2.2.1 w hb
            have c3 := HG18.out.2.2.2 w hb
            refine runs_val (v := .agg #[.int .u32 (tkQ q), .int .u32 (hsQ q), .slice A7 n7 c7, .slice A8 n8 c8]) (w' := w) ?_ ⟨Below.refl _ _, rfl⟩
            go_simp
          case r20_2o16 =>
            intro vs w hb hV
            rw [if_pos (by kernel_rfl)]
            generalize hρ : rho _ _ _ vs = ρ
            have d111 : (fun (w : World) (v : Value) => DrC w (tkQ q) (hsQ q) (plQ q) ((clQ q).map toR) v) w (vs 14) := hV 14 (by kernel_rfl)
            have e111 : ρ (.tmp 111) = vs 14 := by rw [← hρ]; kernel_rfl
            have d112 : (vs 15) = .agg #[.int .u32 (tkQ q), .int .u32 (hsQ q), .slice A7 n7 c7, .slice A8 n8 c8] := hV 15 (by kernel_rfl)
            have e112 : ρ (.tmp 112) = vs 15 := by rw [← hρ]; kernel_rfl
            rw [d112] at e112; clear d112
            have ef21 : ρ (.func 21) = .func (.func 21) #[] #[] := by rw [← hρ]; rfl
            clear hρ hV
            refine runs_call (f := 21) (args := #[vs 14, .agg #[.int .u32 (tkQ q), .int .u32 (hsQ q), .slice A7 n7 c7, .slice A8 n8 c8]]) (w' := w) ?_ ?_
            · go_simp
            · refine (rsame7_any _ _ _ _ _ _ w d111 (HRQ.out.below hb) HCL.out.2).mono ?_
              rintro e w5 ⟨rfl, hb5⟩
              exact ⟨_, rfl, hb5, rfl⟩
          case r20_2o17 =>
            intro vs w hb hV
            rw [if_pos (by kernel_rfl)]
            generalize hρ : rho _ _ _ vs = ρ
            have d113 : (vs 16) = .bool true := hV 16 (by kernel_rfl)
            have e113 : ρ (.tmp 113) = vs 16 := by rw [← hρ]; kernel_rfl
            rw [d113] at e113; clear d113
            clear hρ hV
            refine runs_val (v := .bool false) (w' := w) ?_ ⟨Below.refl _ _, rfl⟩
            go_simp <;> (first | exact IntWalk.u64_in _ (by omega) | exact IntWalk.u32_in _ (by omega) | exact IntWalk.u16_in _ (by omega) | exact IntWalk.u8_in _ (by omega) | exact IntWalk.i64_in _ (by omega) | skip)
          case r20_2o18 =>
            intro vs w hb hV
            rw [if_pos (by kernel_rfl)]
            generalize hρ : rho _ _ _ vs = ρ
            have d109 : (vs 12) = .bool false := hV 12 (by kernel_rfl)
            have e109 : ρ (.tmp 109) = vs 12 := by rw [← hρ]; kernel_rfl
            rw [d109] at e109; clear d109
            have d114 : (vs 17) = .bool false := hV 17 (by kernel_rfl)
            have e114 : ρ (.tmp 114) = vs 17 := by rw [← hρ]; kernel_rfl
            rw [d114] at e114; clear d114
            have econ : ∀ v : Value, ρ (.const v) = v := fun v => by rw [← hρ]; rfl
            clear hρ hV
            refine runs_val (v := .bool false) (w' := w) ?_ ⟨Below.refl _ _, rfl⟩
            go_simp <;> (first | exact IntWalk.u64_in _ (by omega) | exact IntWalk.u32_in _ (by omega) | exact IntWalk.u16_in _ (by omega) | exact IntWalk.u8_in _ (by omega) | exact IntWalk.i64_in _ (by omega) | skip)
          case r20_2e =>
            intro vs X4 hb4 hV
            have d97 : (vs 0) = .int .i64 2 := hV 0 (Nat.le_of_ble_eq_true rfl)
            have d98 : (vs 1) = .bool false := hV 1 (Nat.le_of_ble_eq_true rfl)
            have d99 : (vs 2) = .bool false := hV 2 (Nat.le_of_ble_eq_true rfl)
            have d100 : (vs 3) = .bool false := hV 3 (Nat.le_of_ble_eq_true rfl)
            have d101 : (vs 4) = .bool false := hV 4 (Nat.le_of_ble_eq_true rfl)
            have d102 : (vs 5) = .bool false := hV 5 (Nat.le_of_ble_eq_true rfl)
            have d103 : (vs 6) = .bool true := hV 6 (Nat.le_of_ble_eq_true rfl)
            have d104 : (vs 7) = .bool true := hV 7 (Nat.le_of_ble_eq_true rfl)
            have d105 : (vs 8) = .int .i64 2 := hV 8 (Nat.le_of_ble_eq_true rfl)
            have d106 : (vs 9) = .bool false := hV 9 (Nat.le_of_ble_eq_true rfl)
            have d107 : (vs 10) = .bool false := hV 10 (Nat.le_of_ble_eq_true rfl)
            have d108 : (vs 11) = .bool false := hV 11 (Nat.le_of_ble_eq_true rfl)
            have d109 : (vs 12) = .bool false := hV 12 (Nat.le_of_ble_eq_true rfl)
            have d110 : (vs 13) = .agg #[.int .u32 (tkQ q), .int .u32 (hsQ q), .slice A5 n5 c5, .slice A6 n6 c6] := hV 13 (Nat.le_of_ble_eq_true rfl)
            have d111 : (fun (w : World) (v : Value) => DrC w (tkQ q) (hsQ q) (plQ q) ((clQ q).map toR) v) X4 (vs 14) := hV 14 (Nat.le_of_ble_eq_true rfl)
            have d112 : (vs 15) = .agg #[.int .u32 (tkQ q), .int .u32 (hsQ q), .slice A7 n7 c7, .slice A8 n8 c8] := hV 15 (Nat.le_of_ble_eq_true rfl)
            have d113 : (vs 16) = .bool true := hV 16 (Nat.le_of_ble_eq_true rfl)
            have d114 : (vs 17) = .bool false := hV 17 (Nat.le_of_ble_eq_true rfl)
            have d115 : (vs 18) = .bool false := hV 18 (Nat.le_of_ble_eq_true rfl)
            clear hV
            simp only [putAll]
            rw [d97, d98, d99, d100, d101, d102, d103, d104, d105, d106, d107, d108, d109, d110, d112, d113, d114, d115]
            clear d97 d98 d99 d100 d101 d102 d103 d104 d105 d106 d107 d108 d109 d110 d112 d113 d114 d115
            generalize vs 14 = v111 at *
            clear vs
            simp only [Act.put, List.setIfInBounds_toArray, List.set_cons_zero, List.set_cons_succ]
            have HX4 : Aside0 (Below X.heap.size X X4) := ⟨HX3.out.trans (hb4.mono HX3.out.size)⟩
            clear hb4 d111 HX3
            go_wp2_with fail
            go_roundw
            case rel => exact ⟨j + 1, by omega, rfl, HX4⟩
            case measure => simp only [intOf]; omega
      · obtain rfl : j = 3 := by omega
        go_wp2_with fail
        go_ret
        exact ⟨rfl, by rw [HB.out]; exact HX.out.1.trans (HR.out.mono HX.out.2)⟩
  | true =>
    have hb0 : (0 : Int) < bl := by have := of_decide_eq_true HPOS.out; omega
    have hd0 : decide ((0 : Int) < bl) = true := decide_eq_true hb0
    have hd1 : decide (0 < bl) = true := HPOS.out
    have HBT2 : Aside0 (dBytes tk hs P C = pb ∧ rightB P C.length = true) := ⟨HBT.out rfl⟩
    clear HBT
    go_wp2_with fail
    refine (join_any _ _ _ [Q] _ (C_one_row rfl (Ru_C (H7.out.fact (i := 1) rfl)).2.2 HCQ.out) (Nat.le_refl _) (by have := HPN.out; have := HPL.out.1; have := HQL.out; simp; omega)).mono ?_
    rintro e w7 ⟨v7, rfl, hv7, hbw7⟩
    rw [List.flatten_cons, List.flatten_nil, List.append_nil] at hv7
    obtain ⟨Ae0, ce0, rfl, _, _⟩ := Kd.R_reads hv7
    have H8 := Aside0.mk ((H7.out.box _).call hbw7)
    clear hv7 hbw7 H7
    go_wp2_with fail
    refine (parse_any Ab bl cb pb w7 (Ru_C (H8.out.fact (i := 0) rfl)).2.2 (by have := HPL.out.1; omega) HPL.out.2).mono ?_
    rintro e w8 ⟨hp8, hb8⟩
    obtain ⟨v8, rfl, hv8⟩ := parse_right HBT2.out.1 HBT2.out.2 HTH.out.1 HTH.out.2 HCO.out hp8
    have H9 := Aside0.mk (H8.out.ofR hb8 hv8)
    obtain ⟨A5, c5, A6, c6, rfl, _⟩ := hv8
    obtain ⟨g12, hg12⟩ : ∃ g12, w8.heap.size = g12 := ⟨_, rfl⟩
    have H10 := Aside0.mk (H9.out.allocAt (.cells #[.int .u32 tk, .int .u32 hs, .slice A5 P.length c5, .slice A6 C.length c6] 41) g12 hg12)
    clear hp8 hb8 H8 H9
    obtain ⟨pl2, hpl2⟩ : ∃ pl2, P.length = pl2 := ⟨_, rfl⟩
    obtain ⟨cl2, hcl2⟩ : ∃ cl2, C.length = cl2 := ⟨_, rfl⟩
    have HPL2 := Aside0.mk (And.intro hpl2 hcl2)
    rw [hpl2, hcl2] at H10
    rw [hpl2, hcl2]
    clear hpl2 hcl2
    go_wp2_with (first | (refine wpList_load_row_g 41 (.tmp 4) rfl B rfl rfl 41 _ (0, 0) _ (H10.out.get (i := 1) rfl) Try.underlying41 rfl (delta_info _ _ _ _) ?_) | (refine wpList_load_row_g 41 (.tmp 12) rfl g12 rfl rfl 41 _ (0, 0) _ (H10.out.get (i := 0) rfl) Try.underlying41 rfl (delta_info _ _ _ _) ?_))
    generalize w8.alloc (.cells #[.int .u32 tk, .int .u32 hs, .slice A5 pl2 c5, .slice A6 cl2 c6] 41) = w9 at *
    clear hg12
    refine (own7_any tk hs P C _ _ (H10.out.fact (i := 3) rfl).cells (by have := HPN.out; omega)).mono ?_
    rintro e w10 ⟨v10, rfl, hv10, hb10⟩
    have H11 := Aside0.mk (H10.out.call hb10)
    clear hb10 H10
    go_wp2_with (first | (refine wpList_load_row_g 41 (.tmp 4) rfl B rfl rfl 41 _ (0, 0) _ (H11.out.get (i := 1) rfl) Try.underlying41 rfl (delta_info _ _ _ _) ?_) | (refine wpList_load_row_g 41 (.tmp 12) rfl g12 rfl rfl 41 _ (0, 0) _ (H11.out.get (i := 0) rfl) Try.underlying41 rfl (delta_info _ _ _ _) ?_))
    refine (rbytes7_any tk hs P C _ _ hv10 HBT2.out.2 HTH.out.1 HTH.out.2 (fun y hy => (HCO.out y hy).2)).mono ?_
    rintro e w11 ⟨v11, rfl, hv11, hb11⟩
    rw [HBT2.out.1] at hv11
    obtain ⟨A11, c11, rfl, hc11, hC11⟩ := hv11
    have H12 := Aside0.mk (H11.out.call hb11)
    clear hv10 hb11 H11
    rw [HQL.out.2] at hC11 hc11
    rw [HQL.out.2]
    go_wp2_with (first | (refine wpList_load_row_g 41 (.tmp 4) rfl B rfl rfl 41 _ (0, 0) _ (H12.out.get (i := 1) rfl) Try.underlying41 rfl (delta_info _ _ _ _) ?_) | (refine wpList_load_row_g 41 (.tmp 12) rfl g12 rfl rfl 41 _ (0, 0) _ (H12.out.get (i := 0) rfl) Try.underlying41 rfl (delta_info _ _ _ _) ?_))
    refine (same_told pb pb _ _ w11 ⟨Ab, cb, by rw [HQL.out.2], by rw [HQL.out.2]; exact HCB.out, by rw [HQL.out.2]; exact (Ru_C (H12.out.fact (i := 1) rfl)).2.2⟩ ⟨A11, c11, by rw [HQL.out.2], by rw [HQL.out.2]; exact hc11, by rw [HQL.out.2]; exact hC11⟩).mono ?_
    rintro e w12 ⟨rfl, hb12⟩
    rw [decide_eq_true (show pb = pb from rfl)]
    have H13 := Aside0.mk (H12.out.call hb12)
    clear hb12 hC11 hc11 H12
    go_wp2_with (first | (refine wpList_load_row_g 41 (.tmp 4) rfl B rfl rfl 41 _ (0, 0) _ (H13.out.get (i := 1) rfl) Try.underlying41 rfl (delta_info _ _ _ _) ?_) | (refine wpList_load_row_g 41 (.tmp 12) rfl g12 rfl rfl 41 _ (0, 0) _ (H13.out.get (i := 0) rfl) Try.underlying41 rfl (delta_info _ _ _ _) ?_))
    refine (dsame_any tk hs P C _ _ w12 (H13.out.fact (i := 0) rfl).cells (H13.out.fact (i := 3) rfl).cells (by have := HPN.out; omega)).mono ?_
    rintro e w13 ⟨rfl, hb13⟩
    have H14 := Aside0.mk (H13.out.call hb13)
    clear hb13 H13
    go_wp2_with fail
    refine (join_any _ _ _ [pb] _ (C_one_row rfl (Ru_C (H14.out.fact (i := 1) rfl)).2.2 HCB.out) (Nat.le_refl _) (by have := HPN.out; have := HPL.out.1; have := HQL.out; simp; omega)).mono ?_
    rintro e w14 ⟨v14, rfl, hv14, hbw14⟩
    rw [List.flatten_cons, List.flatten_nil, List.append_nil] at hv14
    have hown := Kd.own_of_R (enc := Value.int .u8) (h1 := fun _ => rfl) hv14
    obtain ⟨ge, ce, rfl, hge, hgl⟩ := hown.form (by rw [HQL.out.2]; omega)
    obtain ⟨a, rfl⟩ := Int.eq_ofNat_of_zero_le hA.1
    obtain ⟨tn, rfl⟩ := Int.eq_ofNat_of_zero_le hT.1
    have hjl : a % bl < pb.length := by rw [HQL.out.2]; exact Nat.mod_lt _ (by omega)
    have hje : (a : Int) % (bl : Int) = ((a % bl : Nat) : Int) := rfl
    obtain ⟨b, hbe, hbl8⟩ := HPL.out.2.nat hjl
    have hat2 := own_at (k := .u8) hown ((a % bl : Nat) : Int) (by omega) (by omega)
    rw [Int.toNat_natCast, rd_getElem hjl, hbe] at hat2
    obtain ⟨hcq, hfq⟩ := hat2
    have hx : bits .xor .u8 (b : Int) (tn : Int) = ((b ^^^ tn : Nat) : Int) := u8_xor_nat b tn hbl8 (by omega)
    have hxl : b ^^^ tn < 256 := Nat.xor_lt_two_pow (n := 8) (by omega) (by omega)
    have hput := R_put8 hv14 (x := ((b ^^^ tn : Nat) : Int)) hjl
    obtain ⟨E, hE⟩ : ∃ E, pb.set (a % bl) ((b ^^^ tn : Nat) : Int) = E := ⟨_, rfl⟩
    have HEF : Aside0 (Bytes E ∧ E.length ≤ 549) := ⟨by
      rw [← hE]
      refine ⟨fun y hy => ?_, by rw [List.length_set, HQL.out.2]; exact HPL.out.1⟩
      rcases List.mem_or_eq_of_mem_set hy with h | h
      · exact HPL.out.2 y h
      · rw [h]; omega⟩
    rw [hE, HQL.out.2] at hput
    have HCE : Aside0 (bl ≤ ce) := ⟨by have := (Ru_C hv14).2.1; rw [HQL.out.2] at this; exact this⟩
    have H15 := Aside0.mk ((H14.out.box _).row (hbw14.setCell (p := ⟨ge, a % bl, none⟩) hge _) hput)
    have hbl1 : (1 : Int) ≤ (bl : Int) := by omega
    have hj1 : (0 : Int) ≤ ((a % bl : Nat) : Int) := by omega
    have hj2 : ((a % bl : Nat) : Int) < (bl : Int) := by have := Nat.mod_lt a (show 0 < bl by omega); omega
    rw [HQL.out.2]
    have HJE := Lib.hid hje
    clear hown hv14 hbw14 hbe hE hput hge hgl hjl H14
    generalize a % bl = j0 at *
    have hje2 := HJE.out
    clear HJE hje
    go_wp2_with fail
    obtain ⟨W15, hW15⟩ : ∃ W, w14.setCell ⟨ge, j0, none⟩ (.int .u8 ((b ^^^ tn : Nat) : Int)) = W := ⟨_, rfl⟩
    have hsz : w14.heap.size = W15.heap.size := by rw [← hW15]; simp [World.setCell]
    rw [hW15] at H15
    rw [hW15, hsz]
    clear hsz hW15 hcq hfq hx
    refine (join_any _ _ _ [pb, Q] _ (C_of_two (blk_new _ _) (Kd.C_alloc (Ru_C (H15.out.fact (i := 2) rfl)).2.2 _) HCB.out (Kd.C_alloc (Ru_C (H15.out.fact (i := 3) rfl)).2.2 _) HCQ.out) (Nat.le_refl _) (by have := HPN.out; have := HPL.out.1; have := HQL.out; simp; omega)).mono ?_
    rintro e x1 ⟨v1, rfl, hv1, hbx1⟩
    rw [show [pb, Q].flatten = pb ++ Q by simp] at hv1
    obtain ⟨Aj, cj, rfl, hcj, _⟩ := Kd.R_reads hv1
    have HJ := Aside0.mk ((H15.out.box _).row hbx1 hv1)
    have HCJ := Aside0.mk hcj
    clear hbx1 hv1 hcj H15
    obtain ⟨jl, hjl⟩ : ∃ jl, (pb ++ Q).length = jl := ⟨_, rfl⟩
    rw [hjl] at HJ HCJ
    rw [hjl]
    clear hjl
    go_wp2_with fail
    obtain ⟨g0, hg0⟩ : ∃ g0, x1.heap.size = g0 := ⟨_, rfl⟩
    have HX : Aside0 (Below B w00 (x1.alloc (.cells #[.slice (some ⟨ge, 0, none⟩) bl ce, .slice Aq ql cq, .slice Aj jl cj] 39)) ∧ B ≤ (x1.alloc (.cells #[.slice (some ⟨ge, 0, none⟩) bl ce, .slice Aq ql cq, .slice Aj jl cj] 39)).heap.size) := ⟨(HJ.out.box _).bel, (HJ.out.box _).le⟩
    have HC3 : (Kd.slice 5 (Kd.int .u8)).C (x1.alloc (.cells #[.slice (some ⟨ge, 0, none⟩) bl ce, .slice Aq ql cq, .slice Aj jl cj] 39)) (some ⟨g0, 0, none⟩) 3 [E, Q, pb ++ Q] := by
      subst hg0
      exact C_of_three (blk_new _ _) (Kd.C_alloc (Ru_C (HJ.out.fact (i := 1) rfl)).2.2 _) HCE.out (Kd.C_alloc (Ru_C (HJ.out.fact (i := 4) rfl)).2.2 _) HCQ.out (Kd.C_alloc (Ru_C (HJ.out.fact (i := 0) rfl)).2.2 _) HCJ.out
    have HALL : Aside0 (∀ y ∈ [E, Q, pb ++ Q], Bytes y ∧ y.length ≤ 1000) := ⟨by
      have hh := HPL.out
      have h2 := HPN.out
      have h3 := HQL.out
      intro y hy
      simp only [List.mem_cons, List.not_mem_nil, or_false] at hy
      rcases hy with rfl | rfl | rfl
      · exact ⟨HEF.out.1, by have := HEF.out.2; omega⟩
      · exact ⟨HLB.out, by omega⟩
      · exact ⟨hh.2.append HLB.out, by rw [List.length_append]; omega⟩⟩
    try rw [hg0]
    generalize x1.alloc (.cells #[.slice (some ⟨ge, 0, none⟩) bl ce, .slice Aq ql cq, .slice Aj jl cj] 39) = X at *
    obtain ⟨LL, hLL⟩ : ∃ LL, [E, Q, pb ++ Q] = LL := ⟨_, rfl⟩
    have H3L : Aside0 (LL.length = 3) := ⟨by rw [← hLL]; rfl⟩
    rw [hLL] at HC3 HALL
    have HFL : Aside0 (∀ z, Below X.heap.size X z → (Kd.slice 5 (Kd.int .u8)).C z (some ⟨g0, 0, none⟩) 3 LL) := ⟨fun z hz => Kd.C_below HC3 hz⟩
    clear hLL HC3 HJ hg0
    go_loopw [83] (fun v83 wr => ∃ j : Nat, j ≤ 3 ∧ v83 = .int .i64 j ∧ Aside0 (Below X.heap.size X wr)) (fun v83 _ => 3 - (intOf v83).toNat)
    case atStart => exact ⟨0, by omega, rfl, ⟨Below.refl _ _⟩⟩
    case round =>
      obtain ⟨j, hj, rfl, HR⟩ := hrel
      by_cases hlt : j < 3
      · have d1 : decide (j < 3) = true := decide_eq_true hlt
        have hj3 : (j : Int) < 3 := by omega
        have hj0 : (0 : Int) ≤ j := by omega
        obtain ⟨Ax, cx, hcell, hcx, hCx⟩ := rows_at (HFL.out wr HR.out) j (by have := H3L.out; omega)
        obtain ⟨q, hq⟩ : ∃ q, LL[j]'(by have := H3L.out; omega) = q := ⟨_, rfl⟩
        have HBQ := Aside0.mk (HALL.out q (by rw [← hq]; exact List.getElem_mem _))
        rw [hq] at hcell hcx hCx
        obtain ⟨xl, hxl⟩ : ∃ xl, q.length = xl := ⟨_, rfl⟩
        have HXL := Aside0.mk hxl
        rw [hxl] at hcell hcx hCx
        have HFX : Aside0 (∀ z, Below wr.heap.size wr z → (Kd.int .u8).C z Ax xl q) := ⟨fun z hz => Kd.C_below hCx hz⟩
        have HCX := Aside0.mk hcx
        clear hcx hCx hq hxl
        go_wp2_with fail
        clear hcell
        refine (parse_any Ax xl cx q wr (HFX.out wr (Below.refl _ _)) (by have := HBQ.out.2; have := HXL.out; omega) HBQ.out.1).mono ?_
        rintro e y1 ⟨hp1, hby1⟩
        obtain ⟨A5, n5, c5, A6, n6, c6, rfl, hD1⟩ := parse_form hp1
        clear hp1
        obtain ⟨g16, hg16⟩ : ∃ g16, y1.heap.size = g16 := ⟨_, rfl⟩
        have hY1 : Below wr.heap.size wr (y1.alloc (.cells #[.int .u32 (tkQ q), .int .u32 (hsQ q), .slice A5 n5 c5, .slice A6 n6 c6] 41)) := below_alloc hby1 _
        have hb_g16 : (y1.alloc (.cells #[.int .u32 (tkQ q), .int .u32 (hsQ q), .slice A5 n5 c5, .slice A6 n6 c6] 41)).heap[g16]? = some (.cells #[.int .u32 (tkQ q), .int .u32 (hsQ q), .slice A5 n5 c5, .slice A6 n6 c6] 41 (0, 0)) := by subst hg16; exact blk_new _ _
        have hD2 := hD1.below (below_alloc (Below.refl _ _) (.cells #[.int .u32 (tkQ q), .int .u32 (hsQ q), .slice A5 n5 c5, .slice A6 n6 c6] 41))
        have HY1 := Aside0.mk hY1
        have HD2 := Aside0.mk (And.intro hD2 hb_g16)
        clear hby1 hD1 hY1 hD2 hb_g16
        go_wp2_with fail
        try rw [hg16]
        clear hg16
        generalize y1.alloc (.cells #[.int .u32 (tkQ q), .int .u32 (hsQ q), .slice A5 n5 c5, .slice A6 n6 c6] 41) = Y at *
        refine (rparse_any Ax xl cx q Y (HFX.out Y HY1.out) HCX.out (by have := HBQ.out.2; have := HXL.out; omega) HBQ.out.1).mono ?_
        rintro e y2 ⟨hp2, hby2⟩
        obtain ⟨A7, n7, c7, A8, n8, c8, rfl, hR1⟩ := rparse_form hp2
        clear hp2
        obtain ⟨g18, hg18⟩ : ∃ g18, y2.heap.size = g18 := ⟨_, rfl⟩
        have hbY : Below Y.heap.size Y (y2.alloc (.cells #[.int .u32 (tkQ q), .int .u32 (hsQ q), .slice A7 n7 c7, .slice A8 n8 c8] 58)) := below_alloc hby2 _
        have HX3 : Aside0 (Below X.heap.size X (y2.alloc (.cells #[.int .u32 (tkQ q), .int .u32 (hsQ q), .slice A7 n7 c7, .slice A8 n8 c8] 58))) := ⟨(HR.out.trans (HY1.out.mono HR.out.size)).trans (hbY.mono (Nat.le_trans HR.out.size HY1.out.size))⟩
        have hb_g18 : (y2.alloc (.cells #[.int .u32 (tkQ q), .int .u32 (hsQ q), .slice A7 n7 c7, .slice A8 n8 c8] 58)).heap[g18]? = some (.cells #[.int .u32 (tkQ q), .int .u32 (hsQ q), .slice A7 n7 c7, .slice A8 n8 c8] 58 (0, 0)) := by subst hg18; exact blk_new _ _
        have hb_g16 := blk_below HD2.out.2 hbY
        have HDQ := Aside0.mk (HD2.out.1.below hbY)
        have HRQ := Aside0.mk (hR1.below (below_alloc (Below.refl _ _) (.cells #[.int .u32 (tkQ q), .int .u32 (hsQ q), .slice A7 n7 c7, .slice A8 n8 c8] 58)))
        have HB3 := Aside0.mk (And.intro hb_g16 hb_g18)
        clear hby2 hR1 hbY hb_g16 hb_g18 HD2 HY1 HFX
        have HCL : Aside0 ((clQ q).length ≤ 1000000 ∧ ((clQ q).map toR).length ≤ 1000000) := ⟨by rw [List.length_map]; have := clQ_300 q HBQ.out.1; omega⟩
        obtain ⟨β, hβ⟩ : ∃ β, okD q = β := ⟨_, rfl⟩
        have HEC : ecD q = if β = true then 0 else 2 := by unfold ecD; rw [hβ]
        rw [hβ]
        cases β with
        | true =>
          rw [if_pos rfl] at HEC
          rw [HEC]
          clear HEC hβ
          go_wp2_with fail
          try rw [hg18]
          clear hg18
          generalize y2.alloc (.cells #[.int .u32 (tkQ q), .int .u32 (hsQ q), .slice A7 n7 c7, .slice A8 n8 c8] 58) = X3 at *
          have hb_g16 := HB3.out.1
          have hb_g18 := HB3.out.2
          have HG16 : Aside0 ((∀ z, Below X3.heap.size X3 z → z.cell? ⟨g16, 0, none⟩ = some (.int .u32 (tkQ q))) ∧ (∀ z, Below X3.heap.size X3 z → z.cell? ⟨g16, 1, none⟩ = some (.int .u32 (hsQ q))) ∧ (∀ z, Below X3.heap.size X3 z → z.cell? ⟨g16, 2, none⟩ = some (.slice A5 n5 c5)) ∧ (∀ z, Below X3.heap.size X3 z → z.cell? ⟨g16, 3, none⟩ = some (.slice A6 n6 c6))) := ⟨(fun z hz => blk_cell (blk_below hb_g16 hz) 0), (fun z hz => blk_cell (blk_below hb_g16 hz) 1), (fun z hz => blk_cell (blk_below hb_g16 hz) 2), (fun z hz => blk_cell (blk_below hb_g16 hz) 3)⟩
          have HG18 : Aside0 ((∀ z, Below X3.heap.size X3 z → z.cell? ⟨g18, 0, none⟩ = some (.int .u32 (tkQ q))) ∧ (∀ z, Below X3.heap.size X3 z → z.cell? ⟨g18, 1, none⟩ = some (.int .u32 (hsQ q))) ∧ (∀ z, Below X3.heap.size X3 z → z.cell? ⟨g18, 2, none⟩ = some (.slice A7 n7 c7)) ∧ (∀ z, Below X3.heap.size X3 z → z.cell? ⟨g18, 3, none⟩ = some (.slice A8 n8 c8))) := ⟨(fun z hz => blk_cell (blk_below hb_g18 hz) 0), (fun z hz => blk_cell (blk_below hb_g18 hz) 1), (fun z hz => blk_cell (blk_below hb_g18 hz) 2), (fun z hz => blk_cell (blk_below hb_g18 hz) 3)⟩
          clear hb_g16 hb_g18 HB3
          refine region_grown (W := X3)
            [fun (w : World) (v : Value) => v = .int .i64 0,
             fun (w : World) (v : Value) => v = .bool true,
             fun (w : World) (v : Value) => v = .bool true,
             fun (w : World) (v : Value) => v = .bool false,
             fun (w : World) (v : Value) => v = .bool false,
             fun (w : World) (v : Value) => v = .bool true,
             fun (w : World) (v : Value) => v = .bool false,
             fun (w : World) (v : Value) => v = .bool false,
             fun (w : World) (v : Value) => v = undef,
             fun (w : World) (v : Value) => v = undef,
             fun (w : World) (v : Value) => v = .bool false,
             fun (w : World) (v : Value) => v = .bool false,
             fun (w : World) (v : Value) => v = .bool false,
             fun (w : World) (v : Value) => v = .agg #[.int .u32 (tkQ q), .int .u32 (hsQ q), .slice A5 n5 c5, .slice A6 n6 c6],
             fun (w : World) (v : Value) => DrC w (tkQ q) (hsQ q) (plQ q) ((clQ q).map toR) v,
             fun (w : World) (v : Value) => v = .agg #[.int .u32 (tkQ q), .int .u32 (hsQ q), .slice A7 n7 c7, .slice A8 n8 c8],
             fun (w : World) (v : Value) => v = .bool true,
             fun (w : World) (v : Value) => v = .bool false,
             fun (w : World) (v : Value) => v = .bool false]
            (fun j => if j = 4 then some false else if j = 7 then some false else if j = 12 then some false else none)
            [(0, some 97), (1, some 98), (2, some 99), (3, some 100), (4, some 101), (5, some 102), (6, some 103), (7, some 104), (8, some 105), (9, some 106), (10, some 107), (11, some 108), (12, some 109), (13, some 110), (14, some 111), (15, some 112), (16, some 113), (17, some 114), (18, some 115)]
            [4, 7, 12]
            (by kernel_rfl) (by kernel_rfl) (by kernel_rfl) (by kernel_rfl) ?r20_3g ?r20_3s ⟨?r20_3o0, ?r20_3o1, ?r20_3o2, ?r20_3o3, ?r20_3o4, ?r20_3o5, ?r20_3o6, ?r20_3o7, ?r20_3o8, ?r20_3o9, ?r20_3o10, ?r20_3o11, ?r20_3o12, ?r20_3o13, ?r20_3o14, ?r20_3o15, ?r20_3o16, ?r20_3o17, ?r20_3o18, trivial⟩ ?r20_3e
          case r20_3g =>
            intro j hj w v hv
            simp only [List.mem_cons, List.not_mem_nil, or_false] at hj
            rcases hj with rfl | rfl | rfl
            · have hv' : v = .bool false := hv; rw [hv']; rfl
            · have hv' : v = .bool false := hv; rw [hv']; rfl
            · have hv' : v = .bool false := hv; rw [hv']; rfl
          case r20_3s =>
            refine ⟨(fun w w' v hb h => h), (fun w w' v hb h => h), (fun w w' v hb h => h), (fun w w' v hb h => h), (fun w w' v hb h => h), (fun w w' v hb h => h), (fun w w' v hb h => h), (fun w w' v hb h => h), (fun w w' v hb h => h), (fun w w' v hb h => h), (fun w w' v hb h => h), (fun w w' v hb h => h), (fun w w' v hb h => h), (fun w w' v hb h => h), (fun w w' v hb h => h.below hb), (fun w w' v hb h => h), (fun w w' v hb h => h), (fun w w' v hb h => h), (fun w w' v hb h => h), trivial⟩
          case r20_3o0 =>
            intro vs w hb hV
            rw [if_pos (by kernel_rfl)]
            generalize hρ : rho _ _ _ vs = ρ
            have e17 : ρ (.tmp 17) = .int .i64 0 := by rw [← hρ]; kernel_rfl
            clear hρ hV
            refine runs_val (v := .int .i64 0) (w' := w) ?_ ⟨Below.refl _ _, rfl⟩
            go_simp <;> (first | exact IntWalk.u64_in _ (by omega) | exact IntWalk.u32_in _ (by omega) | exact IntWalk.u16_in _ (by omega) | exact IntWalk.u8_in _ (by omega) | exact IntWalk.i64_in _ (by omega) | skip)
          case r20_3o1 =>
            intro vs w hb hV
            rw [if_pos (by kernel_rfl)]
            generalize hρ : rho _ _ _ vs = ρ
            have d97 : (vs 0) = .int .i64 0 := hV 0 (by kernel_rfl)
            have e97 : ρ (.tmp 97) = vs 0 := by rw [← hρ]; kernel_rfl
            rw [d97] at e97; clear d97
            have econ : ∀ v : Value, ρ (.const v) = v := fun v => by rw [← hρ]; rfl
            clear hρ hV
            refine runs_val (v := .bool true) (w' := w) ?_ ⟨Below.refl _ _, rfl⟩
            go_simp <;> (first | exact IntWalk.u64_in _ (by omega) | exact IntWalk.u32_in _ (by omega) | exact IntWalk.u16_in _ (by omega) | exact IntWalk.u8_in _ (by omega) | exact IntWalk.i64_in _ (by omega) | skip)
          case r20_3o2 =>
            intro vs w hb hV
            rw [if_pos (by kernel_rfl)]
            generalize hρ : rho _ _ _ vs = ρ
            have e19 : ρ (.tmp 19) = .bool true := by rw [← hρ]; kernel_rfl
            clear hρ hV
            refine runs_val (v := .bool true) (w' := w) ?_ ⟨Below.refl _ _, rfl⟩
            go_simp <;> (first | exact IntWalk.u64_in _ (by omega) | exact IntWalk.u32_in _ (by omega) | exact IntWalk.u16_in _ (by omega) | exact IntWalk.u8_in _ (by omega) | exact IntWalk.i64_in _ (by omega) | skip)
          case r20_3o3 =>
            intro vs w hb hV
            rw [if_pos (by kernel_rfl)]
            generalize hρ : rho _ _ _ vs = ρ
            have d98 : (vs 1) = .bool true := hV 1 (by kernel_rfl)
            have e98 : ρ (.tmp 98) = vs 1 := by rw [← hρ]; kernel_rfl
            rw [d98] at e98; clear d98
            have d99 : (vs 2) = .bool true := hV 2 (by kernel_rfl)
            have e99 : ρ (.tmp 99) = vs 2 := by rw [← hρ]; kernel_rfl
            rw [d99] at e99; clear d99
            clear hρ hV
            refine runs_val (v := .bool false) (w' := w) ?_ ⟨Below.refl _ _, rfl⟩
            go_simp <;> (first | exact IntWalk.u64_in _ (by omega) | exact IntWalk.u32_in _ (by omega) | exact IntWalk.u16_in _ (by omega) | exact IntWalk.u8_in _ (by omega) | exact IntWalk.i64_in _ (by omega) | skip)
          case r20_3o4 =>
            intro vs w hb hV
            rw [if_pos (by kernel_rfl)]
            generalize hρ : rho _ _ _ vs = ρ
            have d100 : (vs 3) = .bool false := hV 3 (by kernel_rfl)
            have e100 : ρ (.tmp 100) = vs 3 := by rw [← hρ]; kernel_rfl
            clear hρ hV
            refine runs_val (v := vs 3) (w' := w) ?_ ⟨Below.refl _ _, d100⟩
            go_simp
          case r20_3o5 =>
            intro vs w hb hV
            rw [if_pos (by kernel_rfl)]
            generalize hρ : rho _ _ _ vs = ρ
            have e19 : ρ (.tmp 19) = .bool true := by rw [← hρ]; kernel_rfl
            clear hρ hV
            refine runs_val (v := .bool true) (w' := w) ?_ ⟨Below.refl _ _, rfl⟩
            go_simp <;> (first | exact IntWalk.u64_in _ (by omega) | exact IntWalk.u32_in _ (by omega) | exact IntWalk.u16_in _ (by omega) | exact IntWalk.u8_in _ (by omega) | exact IntWalk.i64_in _ (by omega) | skip)
          case r20_3o6 =>
            intro vs w hb hV
            rw [if_pos (by kernel_rfl)]
            generalize hρ : rho _ _ _ vs = ρ
            have d102 : (vs 5) = .bool true := hV 5 (by kernel_rfl)
            have e102 : ρ (.tmp 102) = vs 5 := by rw [← hρ]; kernel_rfl
            rw [d102] at e102; clear d102
            clear hρ hV
            refine runs_val (v := .bool false) (w' := w) ?_ ⟨Below.refl _ _, rfl⟩
            go_simp <;> (first | exact IntWalk.u64_in _ (by omega) | exact IntWalk.u32_in _ (by omega) | exact IntWalk.u16_in _ (by omega) | exact IntWalk.u8_in _ (by omega) | exact IntWalk.i64_in _ (by omega) | skip)
          case r20_3o7 =>
            intro vs w hb hV
            rw [if_pos (by kernel_rfl)]
            generalize hρ : rho _ _ _ vs = ρ
            have d103 : (vs 6) = .bool false := hV 6 (by kernel_rfl)
            have e103 : ρ (.tmp 103) = vs 6 := by rw [← hρ]; kernel_rfl
            clear hρ hV
            refine runs_val (v := vs 6) (w' := w) ?_ ⟨Below.refl _ _, d103⟩
            go_simp
          case r20_3o8 =>
            intro vs w hb hV
            (rw [if_neg (by decide)]) <;> exact rfl
          case r20_3o9 =>
            intro vs w hb hV
            (rw [if_neg (by decide)]) <;> exact rfl
          case r20_3o10 =>
            intro vs w hb hV
            rw [if_pos (by kernel_rfl)]
            generalize hρ : rho _ _ _ vs = ρ
            have d104 : (vs 7) = .bool false := hV 7 (by kernel_rfl)
            have e104 : ρ (.tmp 104) = vs 7 := by rw [← hρ]; kernel_rfl
            rw [d104] at e104; clear d104
            have d106 : (vs 9) = undef := hV 9 (by kernel_rfl)
            have e106 : ρ (.tmp 106) = vs 9 := by rw [← hρ]; kernel_rfl
            rw [d106] at e106; clear d106
            have econ : ∀ v : Value, ρ (.const v) = v := fun v => by rw [← hρ]; rfl
            clear hρ hV
            refine runs_val (v := .bool false) (w' := w) ?_ ⟨Below.refl _ _, rfl⟩
            go_simp <;> (first | exact IntWalk.u64_in _ (by omega) | exact IntWalk.u32_in _ (by omega) | exact IntWalk.u16_in _ (by omega) | exact IntWalk.u8_in _ (by omega) | exact IntWalk.i64_in _ (by omega) | skip)
          case r20_3o11 =>
            intro vs w hb hV
            rw [if_pos (by kernel_rfl)]
            generalize hρ : rho _ _ _ vs = ρ
            have d101 : (vs 4) = .bool false := hV 4 (by kernel_rfl)
            have e101 : ρ (.tmp 101) = vs 4 := by rw [← hρ]; kernel_rfl
            rw [d101] at e101; clear d101
            have d107 : (vs 10) = .bool false := hV 10 (by kernel_rfl)
            have e107 : ρ (.tmp 107) = vs 10 := by rw [← hρ]; kernel_rfl
            rw [d107] at e107; clear d107
            have econ : ∀ v : Value, ρ (.const v) = v := fun v => by rw [← hρ]; rfl
            clear hρ hV
            refine runs_val (v := .bool false) (w' := w) ?_ ⟨Below.refl _ _, rfl⟩
            go_simp <;> (first | exact IntWalk.u64_in _ (by omega) | exact IntWalk.u32_in _ (by omega) | exact IntWalk.u16_in _ (by omega) | exact IntWalk.u8_in _ (by omega) | exact IntWalk.i64_in _ (by omega) | skip)
          case r20_3o12 =>
            intro vs w hb hV
            rw [if_pos (by kernel_rfl)]
            generalize hρ : rho _ _ _ vs = ρ
            have d108 : (vs 11) = .bool false := hV 11 (by kernel_rfl)
            have e108 : ρ (.tmp 108) = vs 11 := by rw [← hρ]; kernel_rfl
            clear hρ hV
            refine runs_val (v := vs 11) (w' := w) ?_ ⟨Below.refl _ _, d108⟩
            go_simp
          case r20_3o13 =>
            intro vs w hb hV
            rw [if_pos (by kernel_rfl)]
            generalize hρ : rho _ _ _ vs = ρ
            have e16 : ρ (.tmp 16) = .pointer (some ⟨g16, 0, none⟩) := by rw [← hρ]; kernel_rfl
            clear hρ hV
            have c0 := HG16.out.1 w hb
            have c1 := HG16.out.2.1 w hb
            have c2 := HG16.out.2.2.1 w hb
            have c3 := HG16.out.2.2.2 w hb
            refine runs_val (v := .agg #[.int .u32 (tkQ q), .int .u32 (hsQ q), .slice A5 n5 c5, .slice A6 n6 c6]) (w' := w) ?_ ⟨Below.refl _ _, rfl⟩
            go_simp
          case r20_3o14 =>
            intro vs w hb hV
            rw [if_pos (by kernel_rfl)]
            generalize hρ : rho _ _ _ vs = ρ
            have d110 : (vs 13) = .agg #[.int .u32 (tkQ q), .int .u32 (hsQ q), .slice A5 n5 c5, .slice A6 n6 c6] := hV 13 (by kernel_rfl)
            have e110 : ρ (.tmp 110) = vs 13 := by rw [← hρ]; kernel_rfl
            rw [d110] at e110; clear d110
            have ef22 : ρ (.func 22) = .func (.func 22) #[] #[] := by rw [← hρ]; rfl
            clear hρ hV
            refine runs_call (f := 22) (args := #[.agg #[.int .u32 (tkQ q), .int .u32 (hsQ q), .slice A5 n5 c5, .slice A6 n6 c6]]) (w' := w) ?_ ?_
            · go_simp
            · refine (own7_any _ _ _ _ _ w (HDQ.out.below hb) HCL.out.1).mono ?_
              rintro e w5 ⟨v, rfl, hv, hb5⟩
              exact ⟨_, rfl, hb5, hv⟩
          case r20_3o15 =>
            intro vs w hb hV
            rw [if_pos (by kernel_rfl)]
            generalize hρ : rho _ _ _ vs = ρ
            have e18 : ρ (.tmp 18) = .pointer (some ⟨g18, 0, none⟩) := by rw [← hρ]; kernel_rfl
            clear hρ hV
            have c0 := HG18.out.1 w hb
            have c1 := HG18.out.2.1 w hb
            have c2 := HG18.out.2.2.1 w hb
            have c3 := HG18.out.2.2.2 w hb
            refine runs_val (v := .agg #[.int .u32 (tkQ q), .int .u32 (hsQ q), .slice A7 n7 c7, .slice A8 n8 c8]) (w' := w) ?_ ⟨Below.refl _ _, rfl⟩
            go_simp
          case r20_3o16 =>
            intro vs w hb hV
            rw [if_pos (by kernel_rfl)]
            generalize hρ : rho _ _ _ vs = ρ
            have d111 : (fun (w : World) (v : Value) => DrC w (tkQ q) (hsQ q) (plQ q) ((clQ q).map toR) v) w (vs 14) := hV 14 (by kernel_rfl)
            have e111 : ρ (.tmp 111) = vs 14 := by rw [← hρ]; kernel_rfl
            have d112 : (vs 15) = .agg #[.int .u32 (tkQ q), .int .u32 (hsQ q), .slice A7 n7 c7, .slice A8 n8 c8] := hV 15 (by kernel_rfl)
            have e112 : ρ (.tmp 112) = vs 15 := by rw [← hρ]; kernel_rfl
            rw [d112] at e112; clear d112
            have ef21 : ρ (.func 21) = .func (.func 21) #[] #[] := by rw [← hρ]; rfl
            clear hρ hV
            refine runs_call (f := 21) (args := #[vs 14, .agg #[.int .u32 (tkQ q), .int .u32 (hsQ q), .slice A7 n7 c7, .slice A8 n8 c8]]) (w' := w) ?_ ?_
            · go_simp
            · refine (rsame7_any _ _ _ _ _ _ w d111 (HRQ.out.below hb) HCL.out.2).mono ?_
              rintro e w5 ⟨rfl, hb5⟩
              exact ⟨_, rfl, hb5, rfl⟩
          case r20_3o17 =>
            intro vs w hb hV
            rw [if_pos (by kernel_rfl)]
            generalize hρ : rho _ _ _ vs = ρ
            have d113 : (vs 16) = .bool true := hV 16 (by kernel_rfl)
            have e113 : ρ (.tmp 113) = vs 16 := by rw [← hρ]; kernel_rfl
            rw [d113] at e113; clear d113
            clear hρ hV
            refine runs_val (v := .bool false) (w' := w) ?_ ⟨Below.refl _ _, rfl⟩
            go_simp <;> (first | exact IntWalk.u64_in _ (by omega) | exact IntWalk.u32_in _ (by omega) | exact IntWalk.u16_in _ (by omega) | exact IntWalk.u8_in _ (by omega) | exact IntWalk.i64_in _ (by omega) | skip)
          case r20_3o18 =>
            intro vs w hb hV
            rw [if_pos (by kernel_rfl)]
            generalize hρ : rho _ _ _ vs = ρ
            have d109 : (vs 12) = .bool false := hV 12 (by kernel_rfl)
            have e109 : ρ (.tmp 109) = vs 12 := by rw [← hρ]; kernel_rfl
            rw [d109] at e109; clear d109
            have d114 : (vs 17) = .bool false := hV 17 (by kernel_rfl)
            have e114 : ρ (.tmp 114) = vs 17 := by rw [← hρ]; kernel_rfl
            rw [d114] at e114; clear d114
            have econ : ∀ v : Value, ρ (.const v) = v := fun v => by rw [← hρ]; rfl
            clear hρ hV
            refine runs_val (v := .bool false) (w' := w) ?_ ⟨Below.refl _ _, rfl⟩
            go_simp <;> (first | exact IntWalk.u64_in _ (by omega) | exact IntWalk.u32_in _ (by omega) | exact IntWalk.u16_in _ (by omega) | exact IntWalk.u8_in _ (by omega) | exact IntWalk.i64_in _ (by omega) | skip)
          case r20_3e =>
            intro vs X4 hb4 hV
            have d97 : (vs 0) = .int .i64 0 := hV 0 (Nat.le_of_ble_eq_true rfl)
            have d98 : (vs 1) = .bool true := hV 1 (Nat.le_of_ble_eq_true rfl)
            have d99 : (vs 2) = .bool true := hV 2 (Nat.le_of_ble_eq_true rfl)
            have d100 : (vs 3) = .bool false := hV 3 (Nat.le_of_ble_eq_true rfl)
            have d101 : (vs 4) = .bool false := hV 4 (Nat.le_of_ble_eq_true rfl)
            have d102 : (vs 5) = .bool true := hV 5 (Nat.le_of_ble_eq_true rfl)
            have d103 : (vs 6) = .bool false := hV 6 (Nat.le_of_ble_eq_true rfl)
            have d104 : (vs 7) = .bool false := hV 7 (Nat.le_of_ble_eq_true rfl)
            have d105 : (vs 8) = undef := hV 8 (Nat.le_of_ble_eq_true rfl)
            have d106 : (vs 9) = undef := hV 9 (Nat.le_of_ble_eq_true rfl)
            have d107 : (vs 10) = .bool false := hV 10 (Nat.le_of_ble_eq_true rfl)
            have d108 : (vs 11) = .bool false := hV 11 (Nat.le_of_ble_eq_true rfl)
            have d109 : (vs 12) = .bool false := hV 12 (Nat.le_of_ble_eq_true rfl)
            have d110 : (vs 13) = .agg #[.int .u32 (tkQ q), .int .u32 (hsQ q), .slice A5 n5 c5, .slice A6 n6 c6] := hV 13 (Nat.le_of_ble_eq_true rfl)
            have d111 : (fun (w : World) (v : Value) => DrC w (tkQ q) (hsQ q) (plQ q) ((clQ q).map toR) v) X4 (vs 14) := hV 14 (Nat.le_of_ble_eq_true rfl)
            have d112 : (vs 15) = .agg #[.int .u32 (tkQ q), .int .u32 (hsQ q), .slice A7 n7 c7, .slice A8 n8 c8] := hV 15 (Nat.le_of_ble_eq_true rfl)
            have d113 : (vs 16) = .bool true := hV 16 (Nat.le_of_ble_eq_true rfl)
            have d114 : (vs 17) = .bool false := hV 17 (Nat.le_of_ble_eq_true rfl)
            have d115 : (vs 18) = .bool false := hV 18 (Nat.le_of_ble_eq_true rfl)
            clear hV
            simp only [putAll]
            rw [d97, d98, d99, d100, d101, d102, d103, d104, d105, d106, d107, d108, d109, d110, d112, d113, d114, d115]
            clear d97 d98 d99 d100 d101 d102 d103 d104 d105 d106 d107 d108 d109 d110 d112 d113 d114 d115
            generalize vs 14 = v111 at *
            clear vs
            simp only [Act.put, List.setIfInBounds_toArray, List.set_cons_zero, List.set_cons_succ]
            have HX4 : Aside0 (Below X.heap.size X X4) := ⟨HX3.out.trans (hb4.mono HX3.out.size)⟩
            clear hb4 d111 HX3
            go_wp2_with fail
            go_roundw
            case rel => exact ⟨j + 1, by omega, rfl, HX4⟩
            case measure => simp only [intOf]; omega
        | false =>
          rw [if_neg (by decide)] at HEC
          rw [HEC]
          clear HEC hβ
          go_wp2_with fail
          try rw [hg18]
          clear hg18
          generalize y2.alloc (.cells #[.int .u32 (tkQ q), .int .u32 (hsQ q), .slice A7 n7 c7, .slice A8 n8 c8] 58) = X3 at *
          have hb_g16 := HB3.out.1
          have hb_g18 := HB3.out.2
          have HG16 : Aside0 ((∀ z, Below X3.heap.size X3 z → z.cell? ⟨g16, 0, none⟩ = some (.int .u32 (tkQ q))) ∧ (∀ z, Below X3.heap.size X3 z → z.cell? ⟨g16, 1, none⟩ = some (.int .u32 (hsQ q))) ∧ (∀ z, Below X3.heap.size X3 z → z.cell? ⟨g16, 2, none⟩ = some (.slice A5 n5 c5)) ∧ (∀ z, Below X3.heap.size X3 z → z.cell? ⟨g16, 3, none⟩ = some (.slice A6 n6 c6))) := ⟨(fun z hz => blk_cell (blk_below hb_g16 hz) 0), (fun z hz => blk_cell (blk_below hb_g16 hz) 1), (fun z hz => blk_cell (blk_below hb_g16 hz) 2), (fun z hz => blk_cell (blk_below hb_g16 hz) 3)⟩
          have HG18 : Aside0 ((∀ z, Below X3.heap.size X3 z → z.cell? ⟨g18, 0, none⟩ = some (.int .u32 (tkQ q))) ∧ (∀ z, Below X3.heap.size X3 z → z.cell? ⟨g18, 1, none⟩ = some (.int .u32 (hsQ q))) ∧ (∀ z, Below X3.heap.size X3 z → z.cell? ⟨g18, 2, none⟩ = some (.slice A7 n7 c7)) ∧ (∀ z, Below X3.heap.size X3 z → z.cell? ⟨g18, 3, none⟩ = some (.slice A8 n8 c8))) := ⟨(fun z hz => blk_cell (blk_below hb_g18 hz) 0), (fun z hz => blk_cell (blk_below hb_g18 hz) 1), (fun z hz => blk_cell (blk_below hb_g18 hz) 2), (fun z hz => blk_cell (blk_below hb_g18 hz) 3)⟩
          clear hb_g16 hb_g18 HB3
          refine region_grown (W := X3)
            [fun (w : World) (v : Value) => v = .int .i64 2,
             fun (w : World) (v : Value) => v = .bool false,
             fun (w : World) (v : Value) => v = .bool false,
             fun (w : World) (v : Value) => v = .bool false,
             fun (w : World) (v : Value) => v = .bool false,
             fun (w : World) (v : Value) => v = .bool false,
             fun (w : World) (v : Value) => v = .bool true,
             fun (w : World) (v : Value) => v = .bool true,
             fun (w : World) (v : Value) => v = .int .i64 2,
             fun (w : World) (v : Value) => v = .bool false,
             fun (w : World) (v : Value) => v = .bool false,
             fun (w : World) (v : Value) => v = .bool false,
             fun (w : World) (v : Value) => v = .bool false,
             fun (w : World) (v : Value) => v = .agg #[.int .u32 (tkQ q), .int .u32 (hsQ q), .slice A5 n5 c5, .slice A6 n6 c6],
             fun (w : World) (v : Value) => DrC w (tkQ q) (hsQ q) (plQ q) ((clQ q).map toR) v,
             fun (w : World) (v : Value) => v = .agg #[.int .u32 (tkQ q), .int .u32 (hsQ q), .slice A7 n7 c7, .slice A8 n8 c8],
             fun (w : World) (v : Value) => v = .bool true,
             fun (w : World) (v : Value) => v = .bool false,
             fun (w : World) (v : Value) => v = .bool false]
            (fun j => if j = 4 then some false else if j = 7 then some true else if j = 12 then some false else none)
            [(0, some 97), (1, some 98), (2, some 99), (3, some 100), (4, some 101), (5, some 102), (6, some 103), (7, some 104), (8, some 105), (9, some 106), (10, some 107), (11, some 108), (12, some 109), (13, some 110), (14, some 111), (15, some 112), (16, some 113), (17, some 114), (18, some 115)]
            [4, 7, 12]
            (by kernel_rfl) (by kernel_rfl) (by kernel_rfl) (by kernel_rfl) ?r20_4g ?r20_4s ⟨?r20_4o0, ?r20_4o1, ?r20_4o2, ?r20_4o3, ?r20_4o4, ?r20_4o5, ?r20_4o6, ?r20_4o7, ?r20_4o8, ?r20_4o9, ?r20_4o10, ?r20_4o11, ?r20_4o12, ?r20_4o13, ?r20_4o14, ?r20_4o15, ?r20_4o16, ?r20_4o17, ?r20_4o18, trivial⟩ ?r20_4e
          case r20_4g =>
            intro j hj w v hv
            simp only [List.mem_cons, List.not_mem_nil, or_false] at hj
            rcases hj with rfl | rfl | rfl
            · have hv' : v = .bool false := hv; rw [hv']; rfl
            · have hv' : v = .bool true := hv; rw [hv']; rfl
            · have hv' : v = .bool false := hv; rw [hv']; rfl
          case r20_4s =>
            refine ⟨(fun w w' v hb h => h), (fun w w' v hb h => h), (fun w w' v hb h => h), (fun w w' v hb h => h), (fun w w' v hb h => h), (fun w w' v hb h => h), (fun w w' v hb h => h), (fun w w' v hb h => h), (fun w w' v hb h => h), (fun w w' v hb h => h), (fun w w' v hb h => h), (fun w w' v hb h => h), (fun w w' v hb h => h), (fun w w' v hb h => h), (fun w w' v hb h => h.below hb), (fun w w' v hb h => h), (fun w w' v hb h => h), (fun w w' v hb h => h), (fun w w' v hb h => h), trivial⟩
          case r20_4o0 =>
            intro vs w hb hV
            rw [if_pos (by kernel_rfl)]
            generalize hρ : rho _ _ _ vs = ρ
            have e17 : ρ (.tmp 17) = .int .i64 2 := by rw [← hρ]; kernel_rfl
            clear hρ hV
            refine runs_val (v := .int .i64 2) (w' := w) ?_ ⟨Below.refl _ _, rfl⟩
            go_simp <;> (first | exact IntWalk.u64_in _ (by omega) | exact IntWalk.u32_in _ (by omega) | exact IntWalk.u16_in _ (by omega) | exact IntWalk.u8_in _ (by omega) | exact IntWalk.i64_in _ (by omega) | skip)
          case r20_4o1 =>
            intro vs w hb hV
            rw [if_pos (by kernel_rfl)]
            generalize hρ : rho _ _ _ vs = ρ
            have d97 : (vs 0) = .int .i64 2 := hV 0 (by kernel_rfl)
            have e97 : ρ (.tmp 97) = vs 0 := by rw [← hρ]; kernel_rfl
            rw [d97] at e97; clear d97
            have econ : ∀ v : Value, ρ (.const v) = v := fun v => by rw [← hρ]; rfl
            clear hρ hV
            refine runs_val (v := .bool false) (w' := w) ?_ ⟨Below.refl _ _, rfl⟩
            go_simp <;> (first | exact IntWalk.u64_in _ (by omega) | exact IntWalk.u32_in _ (by omega) | exact IntWalk.u16_in _ (by omega) | exact IntWalk.u8_in _ (by omega) | exact IntWalk.i64_in _ (by omega) | skip)
          case r20_4o2 =>
            intro vs w hb hV
            rw [if_pos (by kernel_rfl)]
            generalize hρ : rho _ _ _ vs = ρ
            have e19 : ρ (.tmp 19) = .bool false := by rw [← hρ]; kernel_rfl
            clear hρ hV
            refine runs_val (v := .bool false) (w' := w) ?_ ⟨Below.refl _ _, rfl⟩
            go_simp <;> (first | exact IntWalk.u64_in _ (by omega) | exact IntWalk.u32_in _ (by omega) | exact IntWalk.u16_in _ (by omega) | exact IntWalk.u8_in _ (by omega) | exact IntWalk.i64_in _ (by omega) | skip)
          case r20_4o3 =>
            intro vs w hb hV
            rw [if_pos (by kernel_rfl)]
            generalize hρ : rho _ _ _ vs = ρ
            have d98 : (vs 1) = .bool false := hV 1 (by kernel_rfl)
            have e98 : ρ (.tmp 98) = vs 1 := by rw [← hρ]; kernel_rfl
            rw [d98] at e98; clear d98
            have d99 : (vs 2) = .bool false := hV 2 (by kernel_rfl)
            have e99 : ρ (.tmp 99) = vs 2 := by rw [← hρ]; kernel_rfl
            rw [d99] at e99; clear d99
            clear hρ hV
            refine runs_val (v := .bool false) (w' := w) ?_ ⟨Below.refl _ _, rfl⟩
            go_simp <;> (first | exact IntWalk.u64_in _ (by omega) | exact IntWalk.u32_in _ (by omega) | exact IntWalk.u16_in _ (by omega) | exact IntWalk.u8_in _ (by omega) | exact IntWalk.i64_in _ (by omega) | skip)
          case r20_4o4 =>
            intro vs w hb hV
            rw [if_pos (by kernel_rfl)]
            generalize hρ : rho _ _ _ vs = ρ
            have d100 : (vs 3) = .bool false := hV 3 (by kernel_rfl)
            have e100 : ρ (.tmp 100) = vs 3 := by rw [← hρ]; kernel_rfl
            clear hρ hV
            refine runs_val (v := vs 3) (w' := w) ?_ ⟨Below.refl _ _, d100⟩
            go_simp
          case r20_4o5 =>
            intro vs w hb hV
            rw [if_pos (by kernel_rfl)]
            generalize hρ : rho _ _ _ vs = ρ
            have e19 : ρ (.tmp 19) = .bool false := by rw [← hρ]; kernel_rfl
            clear hρ hV
            refine runs_val (v := .bool false) (w' := w) ?_ ⟨Below.refl _ _, rfl⟩
            go_simp <;> (first | exact IntWalk.u64_in _ (by omega) | exact IntWalk.u32_in _ (by omega) | exact IntWalk.u16_in _ (by omega) | exact IntWalk.u8_in _ (by omega) | exact IntWalk.i64_in _ (by omega) | skip)
          case r20_4o6 =>
            intro vs w hb hV
            rw [if_pos (by kernel_rfl)]
            generalize hρ : rho _ _ _ vs = ρ
            have d102 : (vs 5) = .bool false := hV 5 (by kernel_rfl)
            have e102 : ρ (.tmp 102) = vs 5 := by rw [← hρ]; kernel_rfl
            rw [d102] at e102; clear d102
            clear hρ hV
            refine runs_val (v := .bool true) (w' := w) ?_ ⟨Below.refl _ _, rfl⟩
            go_simp <;> (first | exact IntWalk.u64_in _ (by omega) | exact IntWalk.u32_in _ (by omega) | exact IntWalk.u16_in _ (by omega) | exact IntWalk.u8_in _ (by omega) | exact IntWalk.i64_in _ (by omega) | skip)
          case r20_4o7 =>
            intro vs w hb hV
            rw [if_pos (by kernel_rfl)]
            generalize hρ : rho _ _ _ vs = ρ
            have d103 : (vs 6) = .bool true := hV 6 (by kernel_rfl)
            have e103 : ρ (.tmp 103) = vs 6 := by rw [← hρ]; kernel_rfl
            clear hρ hV
            refine runs_val (v := vs 6) (w' := w) ?_ ⟨Below.refl _ _, d103⟩
            go_simp
          case r20_4o8 =>
            intro vs w hb hV
            rw [if_pos (by kernel_rfl)]
            generalize hρ : rho _ _ _ vs = ρ
            have e17 : ρ (.tmp 17) = .int .i64 2 := by rw [← hρ]; kernel_rfl
            clear hρ hV
            refine runs_val (v := .int .i64 2) (w' := w) ?_ ⟨Below.refl _ _, rfl⟩
            go_simp <;> (first | exact IntWalk.u64_in _ (by omega) | exact IntWalk.u32_in _ (by omega) | exact IntWalk.u16_in _ (by omega) | exact IntWalk.u8_in _ (by omega) | exact IntWalk.i64_in _ (by omega) | skip)
          case r20_4o9 =>
            intro vs w hb hV
            rw [if_pos (by kernel_rfl)]
            generalize hρ : rho _ _ _ vs = ρ
            have d105 : (vs 8) = .int .i64 2 := hV 8 (by kernel_rfl)
            have e105 : ρ (.tmp 105) = vs 8 := by rw [← hρ]; kernel_rfl
            rw [d105] at e105; clear d105
            have econ : ∀ v : Value, ρ (.const v) = v := fun v => by rw [← hρ]; rfl
            clear hρ hV
            refine runs_val (v := .bool false) (w' := w) ?_ ⟨Below.refl _ _, rfl⟩
            go_simp <;> (first | exact IntWalk.u64_in _ (by omega) | exact IntWalk.u32_in _ (by omega) | exact IntWalk.u16_in _ (by omega) | exact IntWalk.u8_in _ (by omega) | exact IntWalk.i64_in _ (by omega) | skip)
          case r20_4o10 =>
            intro vs w hb hV
            rw [if_pos (by kernel_rfl)]
            generalize hρ : rho _ _ _ vs = ρ
            have d104 : (vs 7) = .bool true := hV 7 (by kernel_rfl)
            have e104 : ρ (.tmp 104) = vs 7 := by rw [← hρ]; kernel_rfl
            rw [d104] at e104; clear d104
            have d106 : (vs 9) = .bool false := hV 9 (by kernel_rfl)
            have e106 : ρ (.tmp 106) = vs 9 := by rw [← hρ]; kernel_rfl
            rw [d106] at e106; clear d106
            have econ : ∀ v : Value, ρ (.const v) = v := fun v => by rw [← hρ]; rfl
            clear hρ hV
            refine runs_val (v := .bool false) (w' := w) ?_ ⟨Below.refl _ _, rfl⟩
            go_simp <;> (first | exact IntWalk.u64_in _ (by omega) | exact IntWalk.u32_in _ (by omega) | exact IntWalk.u16_in _ (by omega) | exact IntWalk.u8_in _ (by omega) | exact IntWalk.i64_in _ (by omega) | skip)
          case r20_4o11 =>
            intro vs w hb hV
            rw [if_pos (by kernel_rfl)]
            generalize hρ : rho _ _ _ vs = ρ
            have d101 : (vs 4) = .bool false := hV 4 (by kernel_rfl)
            have e101 : ρ (.tmp 101) = vs 4 := by rw [← hρ]; kernel_rfl
            rw [d101] at e101; clear d101
            have d107 : (vs 10) = .bool false := hV 10 (by kernel_rfl)
            have e107 : ρ (.tmp 107) = vs 10 := by rw [← hρ]; kernel_rfl
            rw [d107] at e107; clear d107
            have econ : ∀ v : Value, ρ (.const v) = v := fun v => by rw [← hρ]; rfl
            clear hρ hV
            refine runs_val (v := .bool false) (w' := w) ?_ ⟨Below.refl _ _, rfl⟩
            go_simp <;> (first | exact IntWalk.u64_in _ (by omega) | exact IntWalk.u32_in _ (by omega) | exact IntWalk.u16_in _ (by omega) | exact IntWalk.u8_in _ (by omega) | exact IntWalk.i64_in _ (by omega) | skip)
          case r20_4o12 =>
            intro vs w hb hV
            rw [if_pos (by kernel_rfl)]
            generalize hρ : rho _ _ _ vs = ρ
            have d108 : (vs 11) = .bool false := hV 11 (by kernel_rfl)
            have e108 : ρ (.tmp 108) = vs 11 := by rw [← hρ]; kernel_rfl
            clear hρ hV
            refine runs_val (v := vs 11) (w' := w) ?_ ⟨Below.refl _ _, d108⟩
            go_simp
          case r20_4o13 =>
            intro vs w hb hV
            rw [if_pos (by kernel_rfl)]
            generalize hρ : rho _ _ _ vs = ρ
            have e16 : ρ (.tmp 16) = .pointer (some ⟨g16, 0, none⟩) := by rw [← hρ]; kernel_rfl
            clear hρ hV
            have c0 := HG16.out.1 w hb
            have c1 := HG16.out.2.1 w hb
            have c2 := HG16.out.2.2.1 w hb
            have c3 := HG16.out.2.2.2 w hb
            refine runs_val (v := .agg #[.int .u32 (tkQ q), .int .u32 (hsQ q), .slice A5 n5 c5, .slice A6 n6 c6]) (w' := w) ?_ ⟨Below.refl _ _, rfl⟩
            go_simp
          case r20_4o14 =>
            intro vs w hb hV
            rw [if_pos (by kernel_rfl)]
            generalize hρ : rho _ _ _ vs = ρ
            have d110 : (vs 13) = .agg #[.int .u32 (tkQ q), .int .u32 (hsQ q), .slice A5 n5 c5, .slice A6 n6 c6] := hV 13 (by kernel_rfl)
            have e110 : ρ (.tmp 110) = vs 13 := by rw [← hρ]; kernel_rfl
            rw [d110] at e110; clear d110
            have ef22 : ρ (.func 22) = .func (.func 22) #[] #[] := by rw [← hρ]; rfl
            clear hρ hV
            refine runs_call (f := 22) (args := #[.agg #[.int .u32 (tkQ q), .int .u32 (hsQ q), .slice A5 n5 c5, .slice A6 n6 c6]]) (w' := w) ?_ ?_
            · go_simp
            · refine (own7_any _ _ _ _ _ w (HDQ.out.below hb) HCL.out.1).mono ?_
              rintro e w5 ⟨v, rfl, hv, hb5⟩
              exact ⟨_, rfl, hb5, hv⟩
          case r20_4o15 =>
            intro vs w hb hV
            rw [if_pos (by kernel_rfl)]
            generalize hρ : rho _ _ _ vs = ρ
            have e18 : ρ (.tmp 18) = .pointer (some ⟨g18, 0, none⟩) := by rw [← hρ]; kernel_rfl
            clear hρ hV
            have c0 := HG18.out.1 w hb
            have c1 := HG18.out.2.1 w hb
            have c2 := HG18.out.2.2.1 w hb
            have c3 := HG18.out.2.2.2 w hb
            refine runs_val (v := .agg #[.int .u32 (tkQ q), .int .u32 (hsQ q), .slice A7 n7 c7, .slice A8 n8 c8]) (w' := w) ?_ ⟨Below.refl _ _, rfl⟩
            go_simp
          case r20_4o16 =>
            intro vs w hb hV
            rw [if_pos (by kernel_rfl)]
            generalize hρ : rho _ _ _ vs = ρ
            have d111 : (fun (w : World) (v : Value) => DrC w (tkQ q) (hsQ q) (plQ q) ((clQ q).map toR) v) w (vs 14) := hV 14 (by kernel_rfl)
            have e111 : ρ (.tmp 111) = vs 14 := by rw [← hρ]; kernel_rfl
            have d112 : (vs 15) = .agg #[.int .u32 (tkQ q), .int .u32 (hsQ q), .slice A7 n7 c7, .slice A8 n8 c8] := hV 15 (by kernel_rfl)
            have e112 : ρ (.tmp 112) = vs 15 := by rw [← hρ]; kernel_rfl
            rw [d112] at e112; clear d112
            have ef21 : ρ (.func 21) = .func (.func 21) #[] #[] := by rw [← hρ]; rfl
            clear hρ hV
            refine runs_call (f := 21) (args := #[vs 14, .agg #[.int .u32 (tkQ q), .int .u32 (hsQ q), .slice A7 n7 c7, .slice A8 n8 c8]]) (w' := w) ?_ ?_
            · go_simp
            · refine (rsame7_any _ _ _ _ _ _ w d111 (HRQ.out.below hb) HCL.out.2).mono ?_
              rintro e w5 ⟨rfl, hb5⟩
              exact ⟨_, rfl, hb5, rfl⟩
          case r20_4o17 =>
            intro vs w hb hV
            rw [if_pos (by kernel_rfl)]
            generalize hρ : rho _ _ _ vs = ρ
            have d113 : (vs 16) = .bool true := hV 16 (by kernel_rfl)
            have e113 : ρ (.tmp 113) = vs 16 := by rw [← hρ]; kernel_rfl
            rw [d113] at e113; clear d113
            clear hρ hV
            refine runs_val (v := .bool false) (w' := w) ?_ ⟨Below.refl _ _, rfl⟩
            go_simp <;> (first | exact IntWalk.u64_in _ (by omega) | exact IntWalk.u32_in _ (by omega) | exact IntWalk.u16_in _ (by omega) | exact IntWalk.u8_in _ (by omega) | exact IntWalk.i64_in _ (by omega) | skip)
          case r20_4o18 =>
            intro vs w hb hV
            rw [if_pos (by kernel_rfl)]
            generalize hρ : rho _ _ _ vs = ρ
            have d109 : (vs 12) = .bool false := hV 12 (by kernel_rfl)
            have e109 : ρ (.tmp 109) = vs 12 := by rw [← hρ]; kernel_rfl
            rw [d109] at e109; clear d109
            have d114 : (vs 17) = .bool false := hV 17 (by kernel_rfl)
            have e114 : ρ (.tmp 114) = vs 17 := by rw [← hρ]; kernel_rfl
            rw [d114] at e114; clear d114
            have econ : ∀ v : Value, ρ (.const v) = v := fun v => by rw [← hρ]; rfl
            clear hρ hV
            refine runs_val (v := .bool false) (w' := w) ?_ ⟨Below.refl _ _, rfl⟩
            go_simp <;> (first | exact IntWalk.u64_in _ (by omega) | exact IntWalk.u32_in _ (by omega) | exact IntWalk.u16_in _ (by omega) | exact IntWalk.u8_in _ (by omega) | exact IntWalk.i64_in _ (by omega) | skip)
          case r20_4e =>
            intro vs X4 hb4 hV
            have d97 : (vs 0) = .int .i64 2 := hV 0 (Nat.le_of_ble_eq_true rfl)
            have d98 : (vs 1) = .bool false := hV 1 (Nat.le_of_ble_eq_true rfl)
            have d99 : (vs 2) = .bool false := hV 2 (Nat.le_of_ble_eq_true rfl)
            have d100 : (vs 3) = .bool false := hV 3 (Nat.le_of_ble_eq_true rfl)
            have d101 : (vs 4) = .bool false := hV 4 (Nat.le_of_ble_eq_true rfl)
            have d102 : (vs 5) = .bool false := hV 5 (Nat.le_of_ble_eq_true rfl)
            have d103 : (vs 6) = .bool true := hV 6 (Nat.le_of_ble_eq_true rfl)
            have d104 : (vs 7) = .bool true := hV 7 (Nat.le_of_ble_eq_true rfl)
            have d105 : (vs 8) = .int .i64 2 := hV 8 (Nat.le_of_ble_eq_true rfl)
            have d106 : (vs 9) = .bool false := hV 9 (Nat.le_of_ble_eq_true rfl)
            have d107 : (vs 10) = .bool false := hV 10 (Nat.le_of_ble_eq_true rfl)
            have d108 : (vs 11) = .bool false := hV 11 (Nat.le_of_ble_eq_true rfl)
            have d109 : (vs 12) = .bool false := hV 12 (Nat.le_of_ble_eq_true rfl)
            have d110 : (vs 13) = .agg #[.int .u32 (tkQ q), .int .u32 (hsQ q), .slice A5 n5 c5, .slice A6 n6 c6] := hV 13 (Nat.le_of_ble_eq_true rfl)
            have d111 : (fun (w : World) (v : Value) => DrC w (tkQ q) (hsQ q) (plQ q) ((clQ q).map toR) v) X4 (vs 14) := hV 14 (Nat.le_of_ble_eq_true rfl)
            have d112 : (vs 15) = .agg #[.int .u32 (tkQ q), .int .u32 (hsQ q), .slice A7 n7 c7, .slice A8 n8 c8] := hV 15 (Nat.le_of_ble_eq_true rfl)
            have d113 : (vs 16) = .bool true := hV 16 (Nat.le_of_ble_eq_true rfl)
            have d114 : (vs 17) = .bool false := hV 17 (Nat.le_of_ble_eq_true rfl)
            have d115 : (vs 18) = .bool false := hV 18 (Nat.le_of_ble_eq_true rfl)
            clear hV
            simp only [putAll]
            rw [d97, d98, d99, d100, d101, d102, d103, d104, d105, d106, d107, d108, d109, d110, d112, d113, d114, d115]
            clear d97 d98 d99 d100 d101 d102 d103 d104 d105 d106 d107 d108 d109 d110 d112 d113 d114 d115
            generalize vs 14 = v111 at *
            clear vs
            simp only [Act.put, List.setIfInBounds_toArray, List.set_cons_zero, List.set_cons_succ]
            have HX4 : Aside0 (Below X.heap.size X X4) := ⟨HX3.out.trans (hb4.mono HX3.out.size)⟩
            clear hb4 d111 HX3
            go_wp2_with fail
            go_roundw
            case rel => exact ⟨j + 1, by omega, rfl, HX4⟩
            case measure => simp only [intOf]; omega
      · obtain rfl : j = 3 := by omega
        go_wp2_with fail
        go_ret
        exact ⟨rfl, by rw [HB.out]; exact HX.out.1.trans (HR.out.mono HX.out.2)⟩
end Go.Proofs.Ytkhlalpkkmjfnaa
