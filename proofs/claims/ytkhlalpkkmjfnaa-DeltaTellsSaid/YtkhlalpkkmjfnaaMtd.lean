/- The parts of this proof, one behind the other: contracts of the functions, plain laws, the walk. -/
import Derived.Test.YtkhlalpkkmjfnaaMtc
import Derived.Deep.RegionHeld3
namespace Go.Proofs.Ytkhlalpkkmjfnaa
open Go.RowKit Go.Proofs.YtkhlalpkkmjfnaaW.PrintWords Go.Proofs.YtkhlalpkkmjfnaaW.PrintLast Go.Proofs.YtkhlalpkkmjfnaaW.PrintMore
set_option linter.unusedVariables false
set_option linter.unusedSimpArgs false

theorem tmod2 {x : Nat} : ((x : Nat) : Int).tmod 2 = ((x % 2 : Nat) : Int) := by rw [Int.tmod_eq_emod_of_nonneg (by omega)]; omega
theorem bit7_no {t i : Nat} (h : bitT t i = false) : ((t : Int) / 2 ^ i).tmod 2 = 0 := by
  have e3 : t / 2 ^ i % 2 = 0 := by unfold bitT at h; simpa using h
  have h2 : ((t / 2 ^ i : Nat) : Int).tmod 2 = 0 := by rw [tmod2, e3]; rfl
  push_cast at h2
  exact h2
theorem bit7_yes {t i : Nat} (h : bitT t i = true) : ((t : Int) / 2 ^ i).tmod 2 = 1 := by
  have e3 : t / 2 ^ i % 2 = 1 := by unfold bitT at h; simpa using h
  have h2 : ((t / 2 ^ i : Nat) : Int).tmod 2 = 1 := by rw [tmod2, e3]; rfl
  push_cast at h2
  exact h2
theorem fL_listF' (h : Nat → S30) (m : Nat) (e : ∀ j, ¬ j < m → h j = z30) : fL (listF h m) = h := by
  funext j
  by_cases hj : j < m
  · rw [fL_get (by rw [listF_length]; exact hj), listF_get]
  · rw [e j hj]; unfold fL; rw [List.getD_eq_getElem?_getD, List.getElem?_eq_none (by rw [listF_length]; omega)]; rfl
theorem fL_out {M : List S30} {j : Nat} (h : ¬ j < M.length) : fL M j = z30 := by unfold fL; rw [List.getD_eq_getElem?_getD, List.getElem?_eq_none (by omega)]; rfl
set_option maxRecDepth 100000 in
set_option maxHeartbeats 8000000 in
theorem tells7_walk (A : Option Addr) (n c : Nat) (L : List S30) (A2 : Option Addr) (n2 c2 : Nat) (L2 : List S30) (t0 o p tk0 : Int) (w : World) (hr : k30.C w A n L) (hc : n ≤ c) (hw : ∀ x ∈ L, OkC x) (hr2 : k30.C w A2 n2 L2) (hc2 : n2 ≤ c2) (hw2 : ∀ x ∈ L2, OkC x) (hT : 0 ≤ t0 ∧ t0 ≤ 18446744073709551615) (hO : I64 o) (hP : I64 p) (hK : 0 ≤ tk0 ∧ tk0 ≤ 4294967295) :
    Calls Try.prog 6 #[.slice A n c, .slice A2 n2 c2, .int .u64 t0, .int .i64 o, .int .i64 p, .int .u32 tk0] w fun e w' => e = .returned (.bool true) ∧ Below w.heap.size w w' := by
  obtain ⟨t, rfl⟩ : ∃ t : Nat, t0 = (t : Int) := ⟨t0.toNat, by omega⟩
  obtain ⟨tk, rfl⟩ : ∃ tk : Nat, tk0 = (tk : Int) := ⟨tk0.toNat, by omega⟩
  have HT : Aside0 (t < 18446744073709551616 ∧ tk < 4294967296) := ⟨by omega, by omega⟩
  have HW := Aside0.mk hw
  have HW2 := Aside0.mk hw2
  have HRL2 := Aside0.mk hr2
  have HCAP2 := Aside0.mk hc2
  clear hw hw2 hr2 hc2 hO hP hT hK
  have HR := Aside0.mk hr
  have HCAP := Aside0.mk hc
  have hz := zero_board
  have HI := fun f m => Aside0.mk (board_info f m)
  have HO := fun f m => Aside0.mk (boardC_one f m)
  clear hr hc
  go_enter Try.func6, Try.ntmps6
  go_wp2_with fail
  refine (awake7_any _).mono ?_
  rintro e w1 ⟨rfl, hb1⟩
  have HP1 := Aside0.mk ((Hp.start w).call hb1)
  have HR1 := Aside0.mk (Kd.C_below HR.out hb1)
  clear hb1 HR
  go_wp2_with fail
  refine (few7_any _ _ _ L _ HR1.out HCAP.out).mono ?_
  rintro e w2 ⟨v2, rfl, hv2, hb2⟩
  have h48 : (L.take 48).length ≤ 48 := List.length_take_le _ _
  obtain ⟨M, hM⟩ : ∃ M, L.take 48 = M := ⟨_, rfl⟩
  rw [hM] at hv2 h48
  have HM := Aside0.mk hM
  obtain ⟨m, hm⟩ : ∃ m, M.length = m := ⟨_, rfl⟩
  obtain ⟨Q, d, hv, hd, hC⟩ := Kd.R_reads hv2
  rw [hm] at hv hd hC h48
  subst hv
  have HP2 := Aside0.mk (HP1.out.row hb2 hv2)
  have HC2 := Aside0.mk hC
  have HMD := Aside0.mk hd
  have HML := Aside0.mk hm
  have H48 := Aside0.mk h48
  clear hb2 hv2 hd hC hM hm HP1 HR1 HCAP
  have HOK : Aside0 (∀ x ∈ M, OkC x) := ⟨fun x hx => HW.out x (by rw [← HM.out] at hx; exact List.mem_of_mem_take hx)⟩
  clear HW
  go_wp2_with fail
  refine (few7_any A2 n2 c2 L2 _ (Kd.C_below HRL2.out HP2.out.bel) HCAP2.out).mono ?_
  rintro e w3 ⟨v3, rfl, hv3, hb3⟩
  have h48b : (L2.take 48).length ≤ 48 := List.length_take_le _ _
  obtain ⟨M2, hM2⟩ : ∃ M2, L2.take 48 = M2 := ⟨_, rfl⟩
  rw [hM2] at hv3 h48b
  have HOK2 : Aside0 (∀ x ∈ M2, OkC x) := ⟨fun x hx => HW2.out x (by rw [← hM2] at hx; exact List.mem_of_mem_take hx)⟩
  obtain ⟨m2, hm2⟩ : ∃ m2, M2.length = m2 := ⟨_, rfl⟩
  obtain ⟨Q2, d2, hv, hd, hC⟩ := Kd.R_reads hv3
  rw [hm2] at hv hd hC h48b
  subst hv
  have HP3 := Aside0.mk (HP2.out.row hb3 hv3)
  have HML2 := Aside0.mk hm2
  have H482 := Aside0.mk h48b
  have HCM := Aside0.mk (Kd.C_alloc (Ru_C (HP3.out.fact (i := 1) rfl)).2.2 (.cells #[] 30))
  have HB4 := Aside0.mk (below_alloc (Below.refl w3.heap.size w3) (.cells #[] 30))
  have HO4 := Aside0.mk (R_made0 k30 30 w3 w3.heap.size (Nat.le_refl _))
  have HL4 : Aside0 ((([] : List S30).length + m) * 8 ≤ 140737488355328) := ⟨by have := H48.out; simp; omega⟩
  clear hb3 hv3 hd hC hM2 hm2 HP2 HC2 HW2 h48b
  go_wp2_with (at_builtin; go_loud (refine Kd.R_append_rows k30 (Rr := fun x cs => cs = [.int .i32 x.f0, .int .u32 x.f1]) (w0 := w3) w3.heap.size rfl (.tmp 32) (.tmp 33) 22 30 (.agg #[.int .i32 0, .int .u32 0]) 8 rfl Try.underlying22 cell_full rfl (by decide) (by decide) _ [] M Q m d (fun _ => True) (fun _ => False) rfl rfl HO4.out (ReadsRow.imp_ HCM.out (Below.refl _ _) (fun x cs hp => k30_open hp)) (fun x cs h => by rw [h]; exact k30_mkM _ _ _ x) (fun _ h => h.elim) (fun _ _ => trivial) HB4.out HB4.out.size HL4.out ?_))
  intro v4 w4 hv4 hb4 _ _
  obtain ⟨f, hf⟩ : ∃ f, fL M = f := ⟨_, rfl⟩
  obtain ⟨f2, hf2⟩ : ∃ f2, fL M2 = f2 := ⟨_, rfl⟩
  have HF := Aside0.mk hf
  have HF2 := Aside0.mk hf2
  clear hf hf2 HCM HB4 HO4 HL4
  rcases cur_of_R hv4 with ⟨hM0, rfl⟩ | ⟨g, dm, cur, rfl, hg1, hg2, hg3, hcu⟩
  · have hm0 : m = 0 := by rw [← HML.out, hM0]; rfl
    rw [show (Value.slice none 0 0) = Value.slice none m 0 by rw [hm0]]
    have HM0 := Aside0.mk (show m ≤ 0 by omega)
    have hmle : ¬ (0 : Int) < m := by omega
    have d0 : decide ((0 : Int) < m) = false := decide_eq_false hmle
    have d0' : decide (0 < m) = false := decide_eq_false (by omega)
    have HPz := Aside0.mk ((HP3.out.call hb4).always (fun X => k30.C X none m (listF (nextF f f2 t m2 m) m)) (fun W' => by rw [hm0]; exact Kd.C_nil _ _))
    clear hM0 hv4 hb4 HP3 hm0
    go_wp2_with fail
    go_loopw [37] (fun v37 wr => v37 = .int .i64 0 ∧ Aside0 (Hp w.heap.size w wr [] [fun X => k30.C X none m (listF (nextF f f2 t m2 m) m), fun X => k30.R 30 X w.heap.size (fun _ => True) (.slice Q2 m2 d2) M2, fun X => k30.R 30 X w.heap.size (fun _ => True) (.slice Q m d) M])) (fun _ _ => 0)
    case atStart => exact ⟨rfl, HPz⟩
    case round =>
      clear HPz
      obtain ⟨rfl, HPz⟩ := hrel
      obtain ⟨h, hh⟩ : ∃ h, nextF f f2 t m2 m = h := ⟨_, rfl⟩
      rw [hh] at HPz
      have hf0 : ∀ j, ¬ j < m → f j = z30 := fun j hj => by rw [← HF.out]; exact fL_out (by rw [HML.out]; exact hj)
      have hh0 : ∀ j, ¬ j < m → h j = f j := fun j hj => by rw [← hh]; unfold nextF; rw [if_neg (fun q => hj q.1)]
      have hht : ∀ j, j < m → bitT t j = false → h j = f j := fun j hj hb => by rw [← hh]; unfold nextF; rw [if_neg (fun q => by rw [hb] at q; cases q.2.1)]
      have hfO : ∀ j, j < m → OkC (f j) := fun j hj => by
        have hjM : j < M.length := by rw [HML.out]; exact hj
        rw [← HF.out, fL_get hjM]; exact HOK.out _ (List.getElem_mem hjM)
      have hhO : ∀ j, j < m → OkC (h j) := fun j hj => by
        rw [← hh]; unfold nextF
        split
        · rename_i q
          have hjM : j < M2.length := by rw [HML2.out]; exact q.2.2
          rw [← HF2.out, fL_get hjM]; exact HOK2.out _ (List.getElem_mem hjM)
        · exact hfO j hj
      have HH := Aside0.mk (And.intro hf0 (And.intro hh0 (And.intro hht (And.intro hfO hhO))))
      have HE1 := Aside0.mk (fL_listF' h m (fun j hj => by rw [hh0 j hj]; exact hf0 j hj))
      have HCA := Aside0.mk (Ru_C (HPz.out.fact (i := 2) rfl)).2.2
      clear hf0 hh0 hht hfO hhO hh
      go_wp2_with fail
      refine (new_any Q m d M _ HCA.out HMD.out H48.out).mono ?_
      rintro e w5 ⟨rfl, hb5⟩
      have HP5 := Aside0.mk (HPz.out.call hb5)
      rw [HF.out]
      clear hb5 HPz HCA
      have HZ := Aside0.mk (blk_new w5 (.cells (boardC (fun _ => z30) 0) 34))
      have HP6 := Aside0.mk ((HP5.out.alloc (.cells (boardC (fun _ => z30) 0) 34)).setRow (i := 0) rfl (boardC f m))
      clear HP5
      go_wp2_with (first | (refine wpList_store_row rfl 34 (.tmp 15) (.tmp 62) rfl (w5.heap.size) (boardC f m) rfl rfl 34 _ HZ.out (HI _ _).out (by rw [boardC_size, boardC_size]) (HO _ _).out ?_))
      clear HZ
      generalize (w5.alloc (.cells (boardC (fun _ => z30) 0) 34)).setRow w5.heap.size (boardC f m) = w6 at *
      generalize w5.heap.size = ga at *
      have HCB : Aside0 (k30.C w6 none m (listF h m)) := ⟨HP6.out.fact (i := 0) rfl⟩
      refine (new_any none m 0 (listF h m) _ HCB.out HM0.out H48.out).mono ?_
      rintro e w7 ⟨rfl, hb7⟩
      have HP7 := Aside0.mk (HP6.out.call hb7)
      rw [HE1.out]
      clear hb7 HP6 HCB
      have HZ := Aside0.mk (blk_new w7 (.cells (boardC (fun _ => z30) 0) 34))
      have HP8 := Aside0.mk ((HP7.out.alloc (.cells (boardC (fun _ => z30) 0) 34)).setRow (i := 0) rfl (boardC h m))
      clear HP7
      go_wp2_with (first | (refine wpList_store_row rfl 34 (.tmp 17) (.tmp 67) rfl (w7.heap.size) (boardC h m) rfl rfl 34 _ HZ.out (HI _ _).out (by rw [boardC_size, boardC_size]) (HO _ _).out ?_))
      clear HZ
      generalize (w7.alloc (.cells (boardC (fun _ => z30) 0) 34)).setRow w7.heap.size (boardC h m) = w8 at *
      generalize w7.heap.size = gb at *
      have hUh : ∀ j, j < m → U32 (h j).f1 := fun j hj => (HH.out.2.2.2.2 j hj).u32
      have hUf : ∀ j, j < m → U32 (f j).f1 := fun j hj => (HH.out.2.2.2.1 j hj).u32
      obtain ⟨Vf, hVf⟩ : ∃ Vf, viewF f m o = Vf := ⟨_, rfl⟩
      obtain ⟨Vh, hVh⟩ : ∃ Vh, viewF h m o = Vh := ⟨_, rfl⟩
      have hUVh : ∀ j, j < m → U32 (Vh j).f1 := fun j hj => by rw [← hVh, view_f1]; exact hUh j hj
      have hUVf : ∀ j, j < m → U32 (Vf j).f1 := fun j hj => by rw [← hVf, view_f1]; exact hUf j hj
      have hap : putsF Vf (plL t m) (clL Vh t m) (plL t m).length = Vh := apply_of (fun j hj hb => by rw [← hVf, ← hVh, view_is _ _ _ _ hj, view_is _ _ _ _ hj, HH.out.2.2.1 j hj hb]) (fun j hj => by rw [← hVf, ← hVh, view_out _ _ _ _ hj, view_out _ _ _ _ hj, HH.out.2.1 j hj])
      have hVz : ∀ j, ¬ j < m → Vh j = z30 := fun j hj => by rw [← hVh, view_out _ _ _ _ hj, HH.out.2.1 j hj]; exact HH.out.1 j hj
      have hfl : fL (listF Vh m) = Vh := fL_listF' Vh m hVz
      have hs2 : sumB true (listF Vh m) < 4294967296 := by unfold sumB sumN; omega
      have KO := Aside0.mk (fun X : World => of_full h m t o tk X H48.out HT.out.1 hUh)
      have KP := Aside0.mk (fun X : World => of_told h m t p tk X H48.out HT.out.1 hUh)
      have KF := Aside0.mk (fun X : World => full_any h m o tk X H48.out hUh)
      rw [hVh] at KO KF
      have KRO := Aside0.mk (fun (A : Option Addr) (c : Nat) (X : World) (hr : k89.C X A m ((listF h m).map toR)) (hc : m ≤ c) => refof_any h m t o tk A c X hr hc H48.out HT.out.1 HH.out.2.2.2.2)
      have KRF := Aside0.mk (fun (A : Option Addr) (c : Nat) (X : World) (hr : k89.C X A m ((listF h m).map toR)) (hc : m ≤ c) => refof_any h m allT o tk A c X hr hc H48.out (by decide) HH.out.2.2.2.2)
      rw [hVh] at KRO KRF
      have KA : Aside0 (∀ (X : World) (v : Value), DvC X tk (sumB true (listF Vh m)) (plL t m) (clL Vh t m) v → Calls Try.prog 19 #[v, .agg (boardC Vf m)] X fun e w' => e = .returned (.tuple #[.agg (boardC Vh m), .int .i64 0]) ∧ Below X.heap.size X w') := ⟨fun X v hv => by
        have h1 := apply_any Vf m tk (sumB true (listF Vh m)) (plL t m) (clL Vh t m) v true X hv H48.out (plcl_len Vh t m) (by have := plL_len t m; have := H48.out; omega) plL_lt hUVf (clL_u32 hUVh) (by rw [hap]; simp)
        rw [hap] at h1
        exact h1⟩
      have KD : Aside0 (∀ (X : World) (v : Value), DvC X tk (sumB true (listF Vh m)) (plL allT m) (clL Vh allT m) v → Calls Try.prog 20 #[v] X fun e w' => e = .returned (.tuple #[.agg (boardC Vh m), .int .i64 0]) ∧ Below X.heap.size X w') := ⟨fun X v hv => by
        have h1 := dboard_any tk (sumB true (listF Vh m)) m (plL allT m) (clL Vh allT m) v true X hv H48.out (plL_all H48.out).1 (by rw [clL_all Vh H48.out, listF_length]) (plL_all H48.out).2 (clL_u32 hUVh) (by rw [clL_all Vh H48.out]; simp)
        rw [clL_all Vh H48.out, hfl] at h1
        exact h1⟩
      have KY := Aside0.mk (fun (X : World) (v : Value) (hv : DvC X tk (sumB true (listF Vh m)) (plL t m) (clL Vh t m) v) => bytes_told tk (sumB true (listF Vh m)) (plL t m) (clL Vh t m) v X hv (right_of Vh t m H48.out) HT.out.2 hs2 (clL_u32 hUVh))
      have KZ := Aside0.mk (fun (X : World) (v : Value) (hv : DvC X tk (sumB true (listF (viewF h m p) m)) (plL t m) (clL (viewF h m p) t m) v) => bytes_told tk (sumB true (listF (viewF h m p) m)) (plL t m) (clL (viewF h m p) t m) v X hv (right_of (viewF h m p) t m H48.out) HT.out.2 (by unfold sumB sumN; omega) (clL_u32 (fun j hj => by rw [view_f1]; exact hUh j hj)))
      have HLY := Aside0.mk (dBytes_len tk (sumB true (listF Vh m)) Vh t m)
      have HLZ := Aside0.mk (dBytes_len tk (sumB true (listF (viewF h m p) m)) (viewF h m p) t m)
      have KW : Aside0 ((∀ X : World, Calls Try.prog 16 #[.agg (boardC f m), .int .i64 o] X fun e w' => e = .returned (.agg (boardC Vf m)) ∧ Below X.heap.size X w') ∧ ∀ X : World, Calls Try.prog 16 #[.agg (boardC h m), .int .i64 o] X fun e w' => e = .returned (.agg (boardC Vh m)) ∧ Below X.heap.size X w') := ⟨fun X => by have := view_any f m o X H48.out; rwa [hVf] at this, fun X => by have := view_any h m o X H48.out; rwa [hVh] at this⟩
      have hcl1 := clL_len Vh t m
      have hcl3 := clL_len Vh allT m
      have HCL : Aside0 ((clL Vh t m).length ≤ 1000000 ∧ (clL Vh allT m).length ≤ 1000000) := ⟨by have := H48.out; omega⟩
      have HSZ := Aside0.mk (fun X : World => size_any h m t X H48.out HT.out.1)
      have hcnt := cntT_le t m
      have HLC : Aside0 (9 + 9 * cntT t m ≤ 1000) := ⟨by have := H48.out; omega⟩
      have hbe := board_eql Vh Vh m m
      rw [sameB_refl] at hbe
      have HBE := Aside0.mk (And.intro hbe board_guard)
      generalize sumB true (listF Vh m) = hs at *
      generalize sumB true (listF (viewF h m p) m) = hsp at *
      generalize clL (viewF h m p) t m = C5 at *
      generalize plL t m = P1 at *
      generalize clL Vh t m = C1 at *
      generalize plL allT m = P3 at *
      generalize clL Vh allT m = C3 at *
      generalize 9 + 9 * cntT t m = bn at *
      have hA : ((allT : Nat) : Int) = 18446744073709551615 := by decide
      rw [hA] at KRF
      clear hUh hUf hVf hVh hUVh hUVf hap hVz hfl hs2 hcl1 hcl3 hcnt hbe hA
      go_wp2_with fail
      refine region_fills (W := w8) [(9, 11, 4), (10, 12, 8)] #[.int .u32 0, .int .u32 0, .slice none 0 0, .slice none 0 0] 41
        [fun _ v => v = .agg (boardC h m),
         fun _ v => v = .int .u64 t,
         fun _ v => v = .int .i64 o,
         fun _ v => v = .int .u32 tk,
         fun (w : World) (v : Value) => OfR w8.heap.size w tk hs P1 C1 v,
         fun _ v => v = .agg (boardC h m),
         fun _ v => v = .int .i64 o,
         fun _ v => v = .int .u32 tk,
         fun (w : World) (v : Value) => OfR w8.heap.size w tk hs P3 C3 v,
         fun _ _ => True,
         fun _ _ => True,
         fun _ _ => True,
         fun _ _ => True]
        (fun j =>  none)
        [(0, some 69), (1, some 70), (2, some 71), (3, some 72), (4, some 73), (5, some 74), (6, some 75), (7, some 76), (8, some 77), (9, some 19), (10, some 20), (11, none), (12, none)]
        []
        (by kernel_rfl) (by kernel_rfl) (by kernel_rfl) (by kernel_rfl) (by kernel_rfl) ?y13_1g ?y13_1s ?y13_1v ?y13_1a ⟨?y13_1o0, ?y13_1o1, ?y13_1o2, ?y13_1o3, ?y13_1o4, ?y13_1o5, ?y13_1o6, ?y13_1o7, ?y13_1o8, ?y13_1o9, ?y13_1o10, ?y13_1o11, ?y13_1o12, trivial⟩ ?y13_1e
      case y13_1g =>
        intro j hj; cases hj
      case y13_1s =>
        refine ⟨(fun F w w' v hf h => h), (fun F w w' v hf h => h), (fun F w w' v hf h => h), (fun F w w' v hf h => h), (fun F w w' v hf h => h.fillsT (by decide) (by decide) hf), (fun F w w' v hf h => h), (fun F w w' v hf h => h), (fun F w w' v hf h => h), (fun F w w' v hf h => h.fillsT (by decide) (by decide) hf), (fun F w w' v hf h => h), (fun F w w' v hf h => h), (fun F w w' v hf h => h), (fun F w w' v hf h => h), trivial⟩
      case y13_1v =>
        intro f hf
        simp only [List.mem_cons, List.not_mem_nil, or_false] at hf
        rcases hf with rfl | rfl
        · exact ⟨fun _ _ => trivial, fun _ _ => trivial⟩
        · exact ⟨fun _ _ => trivial, fun _ _ => trivial⟩
      case y13_1a =>
        intro f hf w v hv
        simp only [List.mem_cons, List.not_mem_nil, or_false] at hf
        rcases hf with rfl | rfl
        · replace hv : (fun (w : World) (v : Value) => OfR w8.heap.size w tk hs P1 C1 v) w v := hv; obtain ⟨A5, c5, A6, c6, q5, _⟩ := hv; exact ⟨_, q5⟩
        · replace hv : (fun (w : World) (v : Value) => OfR w8.heap.size w tk hs P3 C3 v) w v := hv; obtain ⟨A5, c5, A6, c6, q5, _⟩ := hv; exact ⟨_, q5⟩
      case y13_1o0 =>
        intro vs w hb hV
        rw [if_pos (by kernel_rfl)]
        generalize hρ : rho _ _ _ vs = ρ
        have e17 : ρ (.tmp 17) = .pointer (some ⟨gb, 0, none⟩) := by rw [← hρ]; kernel_rfl
        clear hρ hV
        exact runs_load 34 (.tmp 17) rfl gb e17 34 (boardC h m) (0, 0) _ (((hb.block gb (blk_lt (HP8.out.get (i := 0) rfl))).trans (HP8.out.get (i := 0) rfl))) Try.underlying34 rfl (HI _ _).out ⟨Below.refl _ _, rfl⟩
      case y13_1o1 =>
        intro vs w hb hV
        rw [if_pos (by kernel_rfl)]
        generalize hρ : rho _ _ _ vs = ρ
        have e2 : ρ (.tmp 2) = .int .u64 t := by rw [← hρ]; kernel_rfl
        clear hρ hV
        refine runs_val (v := .int .u64 t) (w' := w) ?_ ⟨Below.refl _ _, rfl⟩
        go_simp <;> (first | exact IntWalk.u64_in _ (by omega) | exact IntWalk.u32_in _ (by omega) | exact IntWalk.u16_in _ (by omega) | exact IntWalk.u8_in _ (by omega) | exact IntWalk.i64_in _ (by omega) | skip)
      case y13_1o2 =>
        intro vs w hb hV
        rw [if_pos (by kernel_rfl)]
        generalize hρ : rho _ _ _ vs = ρ
        have e3 : ρ (.tmp 3) = .int .i64 o := by rw [← hρ]; kernel_rfl
        clear hρ hV
        refine runs_val (v := .int .i64 o) (w' := w) ?_ ⟨Below.refl _ _, rfl⟩
        go_simp <;> (first | exact IntWalk.u64_in _ (by omega) | exact IntWalk.u32_in _ (by omega) | exact IntWalk.u16_in _ (by omega) | exact IntWalk.u8_in _ (by omega) | exact IntWalk.i64_in _ (by omega) | skip)
      case y13_1o3 =>
        intro vs w hb hV
        rw [if_pos (by kernel_rfl)]
        generalize hρ : rho _ _ _ vs = ρ
        have e5 : ρ (.tmp 5) = .int .u32 tk := by rw [← hρ]; kernel_rfl
        clear hρ hV
        refine runs_val (v := .int .u32 tk) (w' := w) ?_ ⟨Below.refl _ _, rfl⟩
        go_simp <;> (first | exact IntWalk.u64_in _ (by omega) | exact IntWalk.u32_in _ (by omega) | exact IntWalk.u16_in _ (by omega) | exact IntWalk.u8_in _ (by omega) | exact IntWalk.i64_in _ (by omega) | skip)
      case y13_1o4 =>
        intro vs w hb hV
        rw [if_pos (by kernel_rfl)]
        generalize hρ : rho _ _ _ vs = ρ
        have d69 : (vs 0) = .agg (boardC h m) := hV 0 (by kernel_rfl)
        have e69 : ρ (.tmp 69) = vs 0 := by rw [← hρ]; kernel_rfl
        rw [d69] at e69; clear d69
        have d70 : (vs 1) = .int .u64 t := hV 1 (by kernel_rfl)
        have e70 : ρ (.tmp 70) = vs 1 := by rw [← hρ]; kernel_rfl
        rw [d70] at e70; clear d70
        have d71 : (vs 2) = .int .i64 o := hV 2 (by kernel_rfl)
        have e71 : ρ (.tmp 71) = vs 2 := by rw [← hρ]; kernel_rfl
        rw [d71] at e71; clear d71
        have d72 : (vs 3) = .int .u32 tk := hV 3 (by kernel_rfl)
        have e72 : ρ (.tmp 72) = vs 3 := by rw [← hρ]; kernel_rfl
        rw [d72] at e72; clear d72
        have ef13 : ρ (.func 13) = .func (.func 13) #[] #[] := by rw [← hρ]; rfl
        clear hρ hV
        refine runs_call (f := 13) (args := #[.agg (boardC h m), .int .u64 t, .int .i64 o, .int .u32 tk]) (w' := w) ?_ ?_
        · go_simp
        · refine (KO.out _).mono ?_
          rintro e w5 ⟨v, rfl, hv, hb5⟩
          exact ⟨_, rfl, hb5, hv.lower hb.size⟩
      case y13_1o5 =>
        intro vs w hb hV
        rw [if_pos (by kernel_rfl)]
        generalize hρ : rho _ _ _ vs = ρ
        have e17 : ρ (.tmp 17) = .pointer (some ⟨gb, 0, none⟩) := by rw [← hρ]; kernel_rfl
        clear hρ hV
        exact runs_load 34 (.tmp 17) rfl gb e17 34 (boardC h m) (0, 0) _ (((hb.block gb (blk_lt (HP8.out.get (i := 0) rfl))).trans (HP8.out.get (i := 0) rfl))) Try.underlying34 rfl (HI _ _).out ⟨Below.refl _ _, rfl⟩
      case y13_1o6 =>
        intro vs w hb hV
        rw [if_pos (by kernel_rfl)]
        generalize hρ : rho _ _ _ vs = ρ
        have e3 : ρ (.tmp 3) = .int .i64 o := by rw [← hρ]; kernel_rfl
        clear hρ hV
        refine runs_val (v := .int .i64 o) (w' := w) ?_ ⟨Below.refl _ _, rfl⟩
        go_simp <;> (first | exact IntWalk.u64_in _ (by omega) | exact IntWalk.u32_in _ (by omega) | exact IntWalk.u16_in _ (by omega) | exact IntWalk.u8_in _ (by omega) | exact IntWalk.i64_in _ (by omega) | skip)
      case y13_1o7 =>
        intro vs w hb hV
        rw [if_pos (by kernel_rfl)]
        generalize hρ : rho _ _ _ vs = ρ
        have e5 : ρ (.tmp 5) = .int .u32 tk := by rw [← hρ]; kernel_rfl
        clear hρ hV
        refine runs_val (v := .int .u32 tk) (w' := w) ?_ ⟨Below.refl _ _, rfl⟩
        go_simp <;> (first | exact IntWalk.u64_in _ (by omega) | exact IntWalk.u32_in _ (by omega) | exact IntWalk.u16_in _ (by omega) | exact IntWalk.u8_in _ (by omega) | exact IntWalk.i64_in _ (by omega) | skip)
      case y13_1o8 =>
        intro vs w hb hV
        rw [if_pos (by kernel_rfl)]
        generalize hρ : rho _ _ _ vs = ρ
        have d74 : (vs 5) = .agg (boardC h m) := hV 5 (by kernel_rfl)
        have e74 : ρ (.tmp 74) = vs 5 := by rw [← hρ]; kernel_rfl
        rw [d74] at e74; clear d74
        have d75 : (vs 6) = .int .i64 o := hV 6 (by kernel_rfl)
        have e75 : ρ (.tmp 75) = vs 6 := by rw [← hρ]; kernel_rfl
        rw [d75] at e75; clear d75
        have d76 : (vs 7) = .int .u32 tk := hV 7 (by kernel_rfl)
        have e76 : ρ (.tmp 76) = vs 7 := by rw [← hρ]; kernel_rfl
        rw [d76] at e76; clear d76
        have ef15 : ρ (.func 15) = .func (.func 15) #[] #[] := by rw [← hρ]; rfl
        clear hρ hV
        refine runs_call (f := 15) (args := #[.agg (boardC h m), .int .i64 o, .int .u32 tk]) (w' := w) ?_ ?_
        · go_simp
        · refine (KF.out _).mono ?_
          rintro e w5 ⟨v, rfl, hv, hb5⟩
          exact ⟨_, rfl, hb5, hv.lower hb.size⟩
      case y13_1o9 =>
        intro vs w
        generalize hρ : rho _ _ _ vs = ρ
        clear hρ
        refine runs_val (v := .pointer (some ⟨w.heap.size, 0, none⟩)) (w' := w.alloc (.cells #[.int .u32 0, .int .u32 0, .slice none 0 0, .slice none 0 0] 41)) ?_ ⟨rfl, rfl⟩
        go_simp
      case y13_1o10 =>
        intro vs w
        generalize hρ : rho _ _ _ vs = ρ
        clear hρ
        refine runs_val (v := .pointer (some ⟨w.heap.size, 0, none⟩)) (w' := w.alloc (.cells #[.int .u32 0, .int .u32 0, .slice none 0 0, .slice none 0 0] 41)) ?_ ⟨rfl, rfl⟩
        go_simp
      case y13_1o11 =>
        intro vs w g cur cs hb hV hg0 hcs hcur hcsz
        replace hg0 : vs 9 = .pointer (some ⟨g, 0, none⟩) := hg0
        replace hcs : vs 4 = .agg cs := hcs
        generalize hρ : rho _ _ _ vs = ρ
        have d19 : (fun (w : World) (v : Value) => True) w (vs 9) := hV 9 (by kernel_rfl)
        have e19 : ρ (.tmp 19) = vs 9 := by rw [← hρ]; kernel_rfl
        have d73 : (fun (w : World) (v : Value) => OfR w8.heap.size w tk hs P1 C1 v) w (vs 4) := hV 4 (by kernel_rfl)
        have e73 : ρ (.tmp 73) = vs 4 := by rw [← hρ]; kernel_rfl
        clear hρ hV
        rw [hg0] at e19
        rw [hcs] at e73
        obtain ⟨A5, c5, A6, c6, q5, _⟩ := d73; rw [hcs] at q5; injection q5 with q5; subst q5; exact runs_store_row 41 (.tmp 19) (.tmp 73) rfl g _ e19 e73 41 cur hcur (delta_info _ _ _ _) hcsz (by simp [Value.oneCell']) rfl
      case y13_1o12 =>
        intro vs w g cur cs hb hV hg0 hcs hcur hcsz
        replace hg0 : vs 10 = .pointer (some ⟨g, 0, none⟩) := hg0
        replace hcs : vs 8 = .agg cs := hcs
        generalize hρ : rho _ _ _ vs = ρ
        have d20 : (fun (w : World) (v : Value) => True) w (vs 10) := hV 10 (by kernel_rfl)
        have e20 : ρ (.tmp 20) = vs 10 := by rw [← hρ]; kernel_rfl
        have d77 : (fun (w : World) (v : Value) => OfR w8.heap.size w tk hs P3 C3 v) w (vs 8) := hV 8 (by kernel_rfl)
        have e77 : ρ (.tmp 77) = vs 8 := by rw [← hρ]; kernel_rfl
        clear hρ hV
        rw [hg0] at e20
        rw [hcs] at e77
        obtain ⟨A5, c5, A6, c6, q5, _⟩ := d77; rw [hcs] at q5; injection q5 with q5; subst q5; exact runs_store_row 41 (.tmp 20) (.tmp 77) rfl g _ e20 e77 41 cur hcur (delta_info _ _ _ _) hcsz (by simp [Value.oneCell']) rfl
      case y13_1e =>
        intro vs w9 hb9 hV hFill hNe
        obtain ⟨g19, cs19, hgP19, hgB19, hgV19, hgF19⟩ := hFill (9, 11, 4) (by simp)
        replace hgP19 : vs 9 = .pointer (some ⟨g19, 0, none⟩) := hgP19
        replace hgV19 : vs 4 = .agg cs19 := hgV19
        obtain ⟨g20, cs20, hgP20, hgB20, hgV20, hgF20⟩ := hFill (10, 12, 8) (by simp)
        replace hgP20 : vs 10 = .pointer (some ⟨g20, 0, none⟩) := hgP20
        replace hgV20 : vs 8 = .agg cs20 := hgV20
        have hne19_20 : g19 ≠ g20 := fun e => hNe (9, 11, 4) (by simp) (10, 12, 8) (by simp) (by decide) (show vs 9 = vs 10 by rw [hgP19, hgP20, e])
        have d69 : (vs 0) = .agg (boardC h m) := hV 0 (Nat.le_of_ble_eq_true rfl)
        have d70 : (vs 1) = .int .u64 t := hV 1 (Nat.le_of_ble_eq_true rfl)
        have d71 : (vs 2) = .int .i64 o := hV 2 (Nat.le_of_ble_eq_true rfl)
        have d72 : (vs 3) = .int .u32 tk := hV 3 (Nat.le_of_ble_eq_true rfl)
        have d73 : (fun (w : World) (v : Value) => OfR w8.heap.size w tk hs P1 C1 v) w9 (vs 4) := hV 4 (Nat.le_of_ble_eq_true rfl)
        have d74 : (vs 5) = .agg (boardC h m) := hV 5 (Nat.le_of_ble_eq_true rfl)
        have d75 : (vs 6) = .int .i64 o := hV 6 (Nat.le_of_ble_eq_true rfl)
        have d76 : (vs 7) = .int .u32 tk := hV 7 (Nat.le_of_ble_eq_true rfl)
        have d77 : (fun (w : World) (v : Value) => OfR w8.heap.size w tk hs P3 C3 v) w9 (vs 8) := hV 8 (Nat.le_of_ble_eq_true rfl)
        clear hV hFill hNe
        simp only [putAll]
        rw [hgV19] at d73
        rw [hgV20] at d77
        rw [d69, d70, d71, d72, d74, d75, d76, hgP19, hgP20, hgV19, hgV20]
        clear d69 d70 d71 d72 d74 d75 d76 hgP19 hgP20 hgV19 hgV20
        generalize vs 11 = vN11
        generalize vs 12 = vN12
        clear vs
        simp only [Act.put, List.setIfInBounds_toArray, List.set_cons_zero, List.set_cons_succ]
        obtain ⟨A5, c5, A6, c6, q5, r5⟩ := d73
        injection q5 with q5
        subst q5
        obtain ⟨A7, c7, A8, c8, q7, r7⟩ := d77
        injection q7 with q7
        subst q7
        have HP9 := Aside0.mk (HP8.out.found2 hb9 hgB19 hgF19 hgB20 hgF20 hne19_20)
        have HP10 := Aside0.mk ((HP9.out.addR (tk := tk) (hs := hs) (P := P1) (C := C1) ⟨A5, c5, A6, c6, rfl, r5⟩ HP8.out.le (by intro p hp; simp only [List.set_cons_zero, List.set_cons_succ, List.mem_cons, List.not_mem_nil, or_false] at hp; rcases hp with rfl | rfl | rfl | rfl <;> exact ⟨_, _, rfl, by decide, by decide⟩)).addR (tk := tk) (hs := hs) (P := P3) (C := C3) ⟨A7, c7, A8, c8, rfl, r7⟩ HP8.out.le (by intro p hp; simp only [List.set_cons_zero, List.set_cons_succ, List.mem_cons, List.not_mem_nil, or_false] at hp; rcases hp with rfl | rfl | rfl | rfl <;> exact ⟨_, _, rfl, by decide, by decide⟩))
        generalize hn1 : P1.length = n1 at *
        generalize hn2 : C1.length = n2 at *
        generalize hn3 : P3.length = n3 at *
        generalize hn4 : C3.length = n4 at *
        have HN24 := Aside0.mk (And.intro hn2 hn4)
        clear hb9 hgB19 hgF19 hgB20 hgF20 hne19_20 r5 r7 HP9 HP8 hn1 hn2 hn3 hn4
        have K1 := Aside0.mk (own7_any tk hs P1 C1 (.agg #[.int .u32 tk, .int .u32 hs, .slice A5 n1 c5, .slice A6 n2 c6]) w9 (HP10.out.fact (i := 1) rfl).cells (by rw [HN24.out.1]; exact HCL.out.1))
        go_wp2_with (first | (refine wpList_load_row_g 41 (.tmp 19) rfl (g19) rfl rfl 41 _ (0, 0) _ (HP10.out.get (i := 0) rfl) Try.underlying41 rfl (delta_info _ _ _ _) ?_))
        refine K1.out.mono ?_
        rintro e x1 ⟨u1, rfl, k1, hbz⟩
        have HP11 := Aside0.mk (HP10.out.call hbz)
        have D1 := Aside0.mk k1
        clear hbz HP10 K1 k1
        go_wp2_with fail
        refine (cells7_any none m 0 (listF h m) _ (HP11.out.fact (i := 2) rfl) HM0.out (by have := H48.out; omega)).mono ?_
        rintro e x2 ⟨u2, rfl, k2, hbz⟩
        obtain ⟨qu2, du2, rfl, hdu2, k3⟩ := Kd.R_reads k2
        rw [List.length_map, listF_length] at hdu2 k3
        rw [List.length_map, listF_length]
        have HP12 := Aside0.mk (HP11.out.call hbz)
        have HDu2 := Aside0.mk hdu2
        have KCu2 := Aside0.mk k3
        have D1' := Aside0.mk (D1.out.below hbz)
        clear hbz HP11 k2 k3 hdu2 D1
        go_wp2_with fail
        refine (KRO.out qu2 du2 _ KCu2.out HDu2.out).mono ?_
        rintro e x3 ⟨u3, rfl, k3, hbz⟩
        have HP13 := Aside0.mk (HP12.out.call hbz)
        have K1 := Aside0.mk (rsame7_any tk hs P1 (C1.map toR) u1 u3 x3 (D1'.out.below hbz) k3 (by rw [List.length_map, HN24.out.1]; exact HCL.out.1))
        clear hbz HP12 D1' k3 KCu2 HDu2
        go_wp2_with fail
        refine K1.out.mono ?_
        rintro e x4 ⟨rfl, hbz⟩
        have HP14 := Aside0.mk (HP13.out.call hbz)
        clear hbz HP13 K1
        have K1 := Aside0.mk (own7_any tk hs P3 C3 (.agg #[.int .u32 tk, .int .u32 hs, .slice A7 n3 c7, .slice A8 n4 c8]) x4 (HP14.out.fact (i := 0) rfl).cells (by rw [HN24.out.2]; exact HCL.out.2))
        go_wp2_with (first | (refine wpList_load_row_g 41 (.tmp 20) rfl (g20) rfl rfl 41 _ (0, 0) _ (HP14.out.get (i := 1) rfl) Try.underlying41 rfl (delta_info _ _ _ _) ?_))
        refine K1.out.mono ?_
        rintro e x5 ⟨u5, rfl, k5, hbz⟩
        have HP15 := Aside0.mk (HP14.out.call hbz)
        have D2 := Aside0.mk k5
        clear hbz HP14 K1 k5
        go_wp2_with fail
        refine (cells7_any none m 0 (listF h m) _ (HP15.out.fact (i := 2) rfl) HM0.out (by have := H48.out; omega)).mono ?_
        rintro e x6 ⟨u6, rfl, k2, hbz⟩
        obtain ⟨qu6, du6, rfl, hdu6, k3⟩ := Kd.R_reads k2
        rw [List.length_map, listF_length] at hdu6 k3
        rw [List.length_map, listF_length]
        have HP16 := Aside0.mk (HP15.out.call hbz)
        have HDu6 := Aside0.mk hdu6
        have KCu6 := Aside0.mk k3
        have D2' := Aside0.mk (D2.out.below hbz)
        clear hbz HP15 k2 k3 hdu6 D2
        go_wp2_with fail
        refine (KRF.out qu6 du6 _ KCu6.out HDu6.out).mono ?_
        rintro e x7 ⟨u7, rfl, k7, hbz⟩
        have HP17 := Aside0.mk (HP16.out.call hbz)
        have K1 := Aside0.mk (rsame7_any tk hs P3 (C3.map toR) u5 u7 x7 (D2'.out.below hbz) k7 (by rw [List.length_map, HN24.out.2]; exact HCL.out.2))
        clear hbz HP16 D2' k7 KCu6 HDu6
        go_wp2_with fail
        refine K1.out.mono ?_
        rintro e x8 ⟨rfl, hbz⟩
        have HP18 := Aside0.mk (HP17.out.call hbz)
        clear hbz HP17 K1
        go_wp2_with fail
        refine region_fill (W := x8) 8 9 (boardC (fun _ => z30) 0) (boardC Vh m) 34
          [fun (w : World) (v : Value) => v = .agg #[.int .u32 tk, .int .u32 hs, .slice A5 n1 c5, .slice A6 n2 c6],
           fun (w : World) (v : Value) => v = .agg (boardC f m),
           fun (w : World) (v : Value) => v = .int .i64 o,
           fun (w : World) (v : Value) => v = .agg (boardC Vf m),
           fun (w : World) (v : Value) => v = .tuple #[.agg (boardC Vh m), .int .i64 0],
           fun (w : World) (v : Value) => v = .tuple #[.agg (boardC Vh m), .int .i64 0],
           fun (w : World) (v : Value) => v = .agg (boardC Vh m),
           fun (w : World) (v : Value) => v = .int .i64 0,
           fun (w : World) (v : Value) => Made x8.heap.size (.cells (boardC (fun _ => z30) 0) 34 (0, 0)) (.cells (boardC Vh m) 34 (0, 0)) w v,
           fun (w : World) (v : Value) => True,
           fun (w : World) (v : Value) => v = .int .i64 0]
          (fun j =>  none)
          [(0, some 100), (1, some 101), (2, some 102), (3, some 103), (4, some 104), (5, some 99), (6, some 105), (7, some 106), (8, some 21), (9, none), (10, some 22)]
          []
          (by kernel_rfl) (by kernel_rfl) (by kernel_rfl) (by kernel_rfl) (by kernel_rfl) ?r16_2z rfl rfl ?r16_2g ?r16_2s ⟨?r16_2o0, ?r16_2o1, ?r16_2o2, ?r16_2o3, ?r16_2o4, ?r16_2o5, ?r16_2o6, ?r16_2o7, ?r16_2o8, ?r16_2o9, ?r16_2o10, trivial⟩ ?r16_2e
        case r16_2z => first | (rw [boardC_size, boardC_size]) | rfl
        case r16_2g =>
          intro j hj; cases hj
        case r16_2s =>
          refine ⟨(fun w w' v hb h => h), (fun w w' v hb h => h), (fun w w' v hb h => h), (fun w w' v hb h => h), (fun w w' v hb h => h), (fun w w' v hb h => h), (fun w w' v hb h => h), (fun w w' v hb h => h), (fun w w' v hb h => Made.stab w w' v hb h), (fun w w' v hb h => trivial), (fun w w' v hb h => h), trivial⟩
        case r16_2o0 =>
          intro vs w hb hV
          rw [if_neg (by decide)]
          rw [if_pos (by kernel_rfl)]
          generalize hρ : rho _ _ _ vs = ρ
          have e19 : ρ (.tmp 19) = .pointer (some ⟨g19, 0, none⟩) := by rw [← hρ]; kernel_rfl
          clear hρ hV
          exact runs_load 41 (.tmp 19) rfl g19 e19 41 #[.int .u32 tk, .int .u32 hs, .slice A5 n1 c5, .slice A6 n2 c6] (0, 0) _ (((hb.block g19 (blk_lt (HP18.out.get (i := 0) rfl))).trans (HP18.out.get (i := 0) rfl))) Try.underlying41 rfl (delta_info _ _ _ _) ⟨Below.refl _ _, rfl⟩
        case r16_2o1 =>
          intro vs w hb hV
          rw [if_neg (by decide)]
          rw [if_pos (by kernel_rfl)]
          generalize hρ : rho _ _ _ vs = ρ
          have e15 : ρ (.tmp 15) = .pointer (some ⟨ga, 0, none⟩) := by rw [← hρ]; kernel_rfl
          clear hρ hV
          exact runs_load 34 (.tmp 15) rfl ga e15 34 (boardC f m) (0, 0) _ (((hb.block ga (blk_lt (HP18.out.get (i := 3) rfl))).trans (HP18.out.get (i := 3) rfl))) Try.underlying34 rfl (HI _ _).out ⟨Below.refl _ _, rfl⟩
        case r16_2o2 =>
          intro vs w hb hV
          rw [if_neg (by decide)]
          rw [if_pos (by kernel_rfl)]
          generalize hρ : rho _ _ _ vs = ρ
          have e3 : ρ (.tmp 3) = .int .i64 o := by rw [← hρ]; kernel_rfl
          clear hρ hV
          refine runs_val (v := .int .i64 o) (w' := w) ?_ ⟨Below.refl _ _, rfl⟩
          go_simp <;> (first | exact IntWalk.u64_in _ (by omega) | exact IntWalk.u32_in _ (by omega) | exact IntWalk.u16_in _ (by omega) | exact IntWalk.u8_in _ (by omega) | exact IntWalk.i64_in _ (by omega) | skip)
        case r16_2o3 =>
          intro vs w hb hV
          rw [if_neg (by decide)]
          rw [if_pos (by kernel_rfl)]
          generalize hρ : rho _ _ _ vs = ρ
          have d101 : (vs 1) = .agg (boardC f m) := hV 1 (by kernel_rfl)
          have e101 : ρ (.tmp 101) = vs 1 := by rw [← hρ]; kernel_rfl
          rw [d101] at e101; clear d101
          have d102 : (vs 2) = .int .i64 o := hV 2 (by kernel_rfl)
          have e102 : ρ (.tmp 102) = vs 2 := by rw [← hρ]; kernel_rfl
          rw [d102] at e102; clear d102
          have ef16 : ρ (.func 16) = .func (.func 16) #[] #[] := by rw [← hρ]; rfl
          clear hρ hV
          refine runs_call (f := 16) (args := #[.agg (boardC f m), .int .i64 o]) (w' := w) ?_ ?_
          · go_simp
          · refine (KW.out.1 _).mono ?_
            rintro e w5 ⟨rfl, hb5⟩
            exact ⟨_, rfl, hb5, rfl⟩
        case r16_2o4 =>
          intro vs w hb hV
          rw [if_neg (by decide)]
          rw [if_pos (by kernel_rfl)]
          generalize hρ : rho _ _ _ vs = ρ
          have d100 : (vs 0) = .agg #[.int .u32 tk, .int .u32 hs, .slice A5 n1 c5, .slice A6 n2 c6] := hV 0 (by kernel_rfl)
          have e100 : ρ (.tmp 100) = vs 0 := by rw [← hρ]; kernel_rfl
          rw [d100] at e100; clear d100
          have d103 : (vs 3) = .agg (boardC Vf m) := hV 3 (by kernel_rfl)
          have e103 : ρ (.tmp 103) = vs 3 := by rw [← hρ]; kernel_rfl
          rw [d103] at e103; clear d103
          have ef19 : ρ (.func 19) = .func (.func 19) #[] #[] := by rw [← hρ]; rfl
          clear hρ hV
          refine runs_call (f := 19) (args := #[.agg #[.int .u32 tk, .int .u32 hs, .slice A5 n1 c5, .slice A6 n2 c6], .agg (boardC Vf m)]) (w' := w) ?_ ?_
          · go_simp
          · have hq1 := ((HP18.out.call hb).fact (i := 1) rfl).cells
            refine (KA.out w _ hq1).mono ?_
            rintro e w5 ⟨rfl, hb5⟩
            exact ⟨_, rfl, hb5, rfl⟩
        case r16_2o5 =>
          intro vs w hb hV
          rw [if_neg (by decide)]
          rw [if_pos (by kernel_rfl)]
          generalize hρ : rho _ _ _ vs = ρ
          have d104 : (vs 4) = .tuple #[.agg (boardC Vh m), .int .i64 0] := hV 4 (by kernel_rfl)
          have e104 : ρ (.tmp 104) = vs 4 := by rw [← hρ]; kernel_rfl
          clear hρ hV
          refine runs_val (v := vs 4) (w' := w) ?_ ⟨Below.refl _ _, d104⟩
          go_simp
        case r16_2o6 =>
          intro vs w hb hV
          rw [if_neg (by decide)]
          rw [if_pos (by kernel_rfl)]
          generalize hρ : rho _ _ _ vs = ρ
          have d99 : (vs 5) = .tuple #[.agg (boardC Vh m), .int .i64 0] := hV 5 (by kernel_rfl)
          have e99 : ρ (.tmp 99) = vs 5 := by rw [← hρ]; kernel_rfl
          rw [d99] at e99; clear d99
          clear hρ hV
          refine runs_val (v := .agg (boardC Vh m)) (w' := w) ?_ ⟨Below.refl _ _, rfl⟩
          go_simp <;> (first | exact IntWalk.u64_in _ (by omega) | exact IntWalk.u32_in _ (by omega) | exact IntWalk.u16_in _ (by omega) | exact IntWalk.u8_in _ (by omega) | exact IntWalk.i64_in _ (by omega) | skip)
        case r16_2o7 =>
          intro vs w hb hV
          rw [if_neg (by decide)]
          rw [if_pos (by kernel_rfl)]
          generalize hρ : rho _ _ _ vs = ρ
          have d99 : (vs 5) = .tuple #[.agg (boardC Vh m), .int .i64 0] := hV 5 (by kernel_rfl)
          have e99 : ρ (.tmp 99) = vs 5 := by rw [← hρ]; kernel_rfl
          rw [d99] at e99; clear d99
          clear hρ hV
          refine runs_val (v := .int .i64 0) (w' := w) ?_ ⟨Below.refl _ _, rfl⟩
          go_simp <;> (first | exact IntWalk.u64_in _ (by omega) | exact IntWalk.u32_in _ (by omega) | exact IntWalk.u16_in _ (by omega) | exact IntWalk.u8_in _ (by omega) | exact IntWalk.i64_in _ (by omega) | skip)
        case r16_2o8 =>
          intro vs w hb hV
          rw [if_neg (by decide)]
          rw [if_pos (by kernel_rfl)]
          generalize hρ : rho _ _ _ vs = ρ
          clear hρ hV
          refine runs_val (v := .pointer (some ⟨w.heap.size, 0, none⟩)) (w' := w.alloc (.cells (boardC (fun _ => z30) 0) 34)) ?_ ⟨below_alloc (Below.refl _ _) _, w.heap.size, rfl, hb.size, .inl (blk_new _ _)⟩
          go_simp
        case r16_2o9 =>
          intro vs w hb hV
          rw [if_pos rfl]
          intro g cur hg0 hcur hcsz
          generalize hρ : rho _ _ _ vs = ρ
          have d21 : (fun (w : World) (v : Value) => Made x8.heap.size (.cells (boardC (fun _ => z30) 0) 34 (0, 0)) (.cells (boardC Vh m) 34 (0, 0)) w v) w (vs 8) := hV 8 (by kernel_rfl)
          have e21 : ρ (.tmp 21) = vs 8 := by rw [← hρ]; kernel_rfl
          rw [hg0] at e21; clear d21
          have d105 : (vs 6) = .agg (boardC Vh m) := hV 6 (by kernel_rfl)
          have e105 : ρ (.tmp 105) = vs 6 := by rw [← hρ]; kernel_rfl
          rw [d105] at e105; clear d105
          clear hρ hV
          exact runs_store_row 34 (.tmp 21) (.tmp 105) rfl g _ e21 e105 34 cur hcur (HI _ _).out hcsz (HO _ _).out rfl
        case r16_2o10 =>
          intro vs w hb hV
          rw [if_neg (by decide)]
          rw [if_pos (by kernel_rfl)]
          generalize hρ : rho _ _ _ vs = ρ
          have d106 : (vs 7) = .int .i64 0 := hV 7 (by kernel_rfl)
          have e106 : ρ (.tmp 106) = vs 7 := by rw [← hρ]; kernel_rfl
          clear hρ hV
          refine runs_val (v := vs 7) (w' := w) ?_ ⟨Below.refl _ _, d106⟩
          go_simp
        case r16_2e =>
          intro vs x9 g21 hb9 hV hgP hgB21 hgF21
          have d100 : (vs 0) = .agg #[.int .u32 tk, .int .u32 hs, .slice A5 n1 c5, .slice A6 n2 c6] := hV 0 (Nat.le_of_ble_eq_true rfl)
          have d101 : (vs 1) = .agg (boardC f m) := hV 1 (Nat.le_of_ble_eq_true rfl)
          have d102 : (vs 2) = .int .i64 o := hV 2 (Nat.le_of_ble_eq_true rfl)
          have d103 : (vs 3) = .agg (boardC Vf m) := hV 3 (Nat.le_of_ble_eq_true rfl)
          have d104 : (vs 4) = .tuple #[.agg (boardC Vh m), .int .i64 0] := hV 4 (Nat.le_of_ble_eq_true rfl)
          have d99 : (vs 5) = .tuple #[.agg (boardC Vh m), .int .i64 0] := hV 5 (Nat.le_of_ble_eq_true rfl)
          have d105 : (vs 6) = .agg (boardC Vh m) := hV 6 (Nat.le_of_ble_eq_true rfl)
          have d106 : (vs 7) = .int .i64 0 := hV 7 (Nat.le_of_ble_eq_true rfl)
          have d21 : vs 8 = .pointer (some ⟨g21, 0, none⟩) := hgP; clear hgP
          have d22 : (vs 10) = .int .i64 0 := hV 10 (Nat.le_of_ble_eq_true rfl)
          clear hV
          simp only [putAll]
          rw [d100, d101, d102, d103, d104, d99, d105, d106, d21, d22]
          clear d100 d101 d102 d103 d104 d99 d105 d106 d21 d22
          generalize vs 9 = vN9
          clear vs
          simp only [Act.put, List.setIfInBounds_toArray, List.set_cons_zero, List.set_cons_succ]
          have HP19 := Aside0.mk (HP18.out.found hb9 hgB21 hgF21)
          have KD2 := Aside0.mk (KD.out _ _ (HP19.out.fact (i := 0) rfl).cells)
          clear hb9 hgB21 hgF21 HP18
          go_wp2_with (first | (refine wpList_load_row_g 41 (.tmp 20) rfl (g20) rfl rfl 41 _ (0, 0) _ (HP19.out.get (i := 2) rfl) Try.underlying41 rfl (delta_info _ _ _ _) ?_))
          refine KD2.out.mono ?_
          rintro e x10 ⟨rfl, hbz⟩
          have HP20 := Aside0.mk (HP19.out.call hbz)
          clear hbz HP19 KD2
          have HZ := Aside0.mk (blk_new x10 (.cells (boardC (fun _ => z30) 0) 34))
          have HP21 := Aside0.mk ((HP20.out.alloc (.cells (boardC (fun _ => z30) 0) 34)).setRow (i := 0) rfl (boardC Vh m))
          clear HP20
          go_wp2_with (first | (refine wpList_store_row rfl 34 (.tmp 23) (.tmp 110) rfl (x10.heap.size) (boardC Vh m) rfl rfl 34 _ HZ.out (HI _ _).out (by rw [boardC_size, boardC_size]) (HO _ _).out ?_) | (refine wpList_load_row_g 41 (.tmp 19) rfl (g19) rfl rfl 41 _ (0, 0) _ (HP21.out.get (i := 2) rfl) Try.underlying41 rfl (delta_info _ _ _ _) ?_))
          have K2 := Aside0.mk (KY.out _ _ (HP21.out.fact (i := 1) rfl).cells)
          clear HZ
          generalize (x10.alloc (.cells (boardC (fun _ => z30) 0) 34)).setRow x10.heap.size (boardC Vh m) = x11 at *
          generalize x10.heap.size = g23 at *
          refine K2.out.mono ?_
          rintro e x12 ⟨u9, rfl, k9, hbz⟩
          obtain ⟨A9, c9, rfl, _, _⟩ := k9
          rw [HLY.out]
          have HP22 := Aside0.mk (HP21.out.call hbz)
          clear hbz HP21 K2
          go_wp2_with fail
          refine region_grown (W := x12)
            [fun (w : World) (v : Value) => v = .int .i64 0,
             fun (w : World) (v : Value) => v = .bool true,
             fun (w : World) (v : Value) => v = .bool true,
             fun (w : World) (v : Value) => v = .agg (boardC Vh m),
             fun (w : World) (v : Value) => v = .agg (boardC h m),
             fun (w : World) (v : Value) => v = .int .i64 o,
             fun (w : World) (v : Value) => v = .agg (boardC Vh m),
             fun (w : World) (v : Value) => v = .bool true,
             fun (w : World) (v : Value) => v = .bool true,
             fun (w : World) (v : Value) => v = .bool true,
             fun (w : World) (v : Value) => v = .int .i64 0,
             fun (w : World) (v : Value) => v = .bool true,
             fun (w : World) (v : Value) => v = .bool true,
             fun (w : World) (v : Value) => v = .bool true,
             fun (w : World) (v : Value) => v = .agg (boardC Vh m),
             fun (w : World) (v : Value) => v = .agg (boardC h m),
             fun (w : World) (v : Value) => v = .int .i64 o,
             fun (w : World) (v : Value) => v = .agg (boardC Vh m),
             fun (w : World) (v : Value) => v = .bool true,
             fun (w : World) (v : Value) => v = .bool true,
             fun (w : World) (v : Value) => v = .bool true,
             fun (w : World) (v : Value) => v = .int .i64 bn,
             fun (w : World) (v : Value) => v = .int .u64 t,
             fun (w : World) (v : Value) => v = .agg (boardC h m),
             fun (w : World) (v : Value) => v = .int .i64 bn,
             fun (w : World) (v : Value) => v = .bool true,
             fun (w : World) (v : Value) => v = .bool true,
             fun (w : World) (v : Value) => v = .bool true,
             fun (w : World) (v : Value) => v = .int .i64 bn,
             fun (w : World) (v : Value) => v = .agg (boardC h m),
             fun (w : World) (v : Value) => v = .int .u64 t,
             fun (w : World) (v : Value) => v = .int .i64 p,
             fun (w : World) (v : Value) => v = .int .u32 tk,
             fun (w : World) (v : Value) => DvC w tk hsp P1 C5 v,
             fun (w : World) (v : Value) => BvC w (dBytes tk hsp P1 C5) v,
             fun (w : World) (v : Value) => v = .int .i64 bn,
             fun (w : World) (v : Value) => v = .bool true,
             fun (w : World) (v : Value) => v = .bool true,
             fun (w : World) (v : Value) => v = .bool true]
            (fun j => if j = 2 then some true else if j = 9 then some true else if j = 13 then some true else if j = 20 then some true else if j = 27 then some true else none)
            [(0, some 115), (1, some 116), (2, some 117), (3, some 118), (4, some 119), (5, some 120), (6, some 121), (7, some 122), (8, some 123), (9, some 124), (10, some 125), (11, some 126), (12, some 127), (13, some 128), (14, some 129), (15, some 130), (16, some 131), (17, some 132), (18, some 133), (19, some 134), (20, some 135), (21, some 136), (22, some 137), (23, some 138), (24, some 139), (25, some 140), (26, some 141), (27, some 142), (28, some 143), (29, some 144), (30, some 145), (31, some 146), (32, some 147), (33, some 148), (34, some 149), (35, some 150), (36, some 151), (37, some 152), (38, some 12)]
            [2, 9, 13, 20, 27]
            (by kernel_rfl) (by kernel_rfl) (by kernel_rfl) (by kernel_rfl) ?r19_3g ?r19_3s ⟨?r19_3o0, ?r19_3o1, ?r19_3o2, ?r19_3o3, ?r19_3o4, ?r19_3o5, ?r19_3o6, ?r19_3o7, ?r19_3o8, ?r19_3o9, ?r19_3o10, ?r19_3o11, ?r19_3o12, ?r19_3o13, ?r19_3o14, ?r19_3o15, ?r19_3o16, ?r19_3o17, ?r19_3o18, ?r19_3o19, ?r19_3o20, ?r19_3o21, ?r19_3o22, ?r19_3o23, ?r19_3o24, ?r19_3o25, ?r19_3o26, ?r19_3o27, ?r19_3o28, ?r19_3o29, ?r19_3o30, ?r19_3o31, ?r19_3o32, ?r19_3o33, ?r19_3o34, ?r19_3o35, ?r19_3o36, ?r19_3o37, ?r19_3o38, trivial⟩ ?r19_3e
          case r19_3g =>
            intro j hj w v hv
            simp only [List.mem_cons, List.not_mem_nil, or_false] at hj
            rcases hj with rfl | rfl | rfl | rfl | rfl
            · have hv' : v = .bool true := hv; rw [hv']; rfl
            · have hv' : v = .bool true := hv; rw [hv']; rfl
            · have hv' : v = .bool true := hv; rw [hv']; rfl
            · have hv' : v = .bool true := hv; rw [hv']; rfl
            · have hv' : v = .bool true := hv; rw [hv']; rfl
          case r19_3s =>
            refine ⟨(fun w w' v hb h => h), (fun w w' v hb h => h), (fun w w' v hb h => h), (fun w w' v hb h => h), (fun w w' v hb h => h), (fun w w' v hb h => h), (fun w w' v hb h => h), (fun w w' v hb h => h), (fun w w' v hb h => h), (fun w w' v hb h => h), (fun w w' v hb h => h), (fun w w' v hb h => h), (fun w w' v hb h => h), (fun w w' v hb h => h), (fun w w' v hb h => h), (fun w w' v hb h => h), (fun w w' v hb h => h), (fun w w' v hb h => h), (fun w w' v hb h => h), (fun w w' v hb h => h), (fun w w' v hb h => h), (fun w w' v hb h => h), (fun w w' v hb h => h), (fun w w' v hb h => h), (fun w w' v hb h => h), (fun w w' v hb h => h), (fun w w' v hb h => h), (fun w w' v hb h => h), (fun w w' v hb h => h), (fun w w' v hb h => h), (fun w w' v hb h => h), (fun w w' v hb h => h), (fun w w' v hb h => h), (fun w w' v hb h => h.below hb), (fun w w' v hb h => h.below hb), (fun w w' v hb h => h), (fun w w' v hb h => h), (fun w w' v hb h => h), (fun w w' v hb h => h), trivial⟩
          case r19_3o0 =>
            intro vs w hb hV
            rw [if_pos (by kernel_rfl)]
            generalize hρ : rho _ _ _ vs = ρ
            have e22 : ρ (.tmp 22) = .int .i64 0 := by rw [← hρ]; kernel_rfl
            clear hρ hV
            refine runs_val (v := .int .i64 0) (w' := w) ?_ ⟨Below.refl _ _, rfl⟩
            go_simp <;> (first | exact IntWalk.u64_in _ (by omega) | exact IntWalk.u32_in _ (by omega) | exact IntWalk.u16_in _ (by omega) | exact IntWalk.u8_in _ (by omega) | exact IntWalk.i64_in _ (by omega) | skip)
          case r19_3o1 =>
            intro vs w hb hV
            rw [if_pos (by kernel_rfl)]
            generalize hρ : rho _ _ _ vs = ρ
            have d115 : (vs 0) = .int .i64 0 := hV 0 (by kernel_rfl)
            have e115 : ρ (.tmp 115) = vs 0 := by rw [← hρ]; kernel_rfl
            rw [d115] at e115; clear d115
            have econ : ∀ v : Value, ρ (.const v) = v := fun v => by rw [← hρ]; rfl
            clear hρ hV
            refine runs_val (v := .bool true) (w' := w) ?_ ⟨Below.refl _ _, rfl⟩
            go_simp <;> (first | exact IntWalk.u64_in _ (by omega) | exact IntWalk.u32_in _ (by omega) | exact IntWalk.u16_in _ (by omega) | exact IntWalk.u8_in _ (by omega) | exact IntWalk.i64_in _ (by omega) | skip)
          case r19_3o2 =>
            intro vs w hb hV
            rw [if_pos (by kernel_rfl)]
            generalize hρ : rho _ _ _ vs = ρ
            have d116 : (vs 1) = .bool true := hV 1 (by kernel_rfl)
            have e116 : ρ (.tmp 116) = vs 1 := by rw [← hρ]; kernel_rfl
            clear hρ hV
            refine runs_val (v := vs 1) (w' := w) ?_ ⟨Below.refl _ _, d116⟩
            go_simp
          case r19_3o3 =>
            intro vs w hb hV
            rw [if_pos (by kernel_rfl)]
            generalize hρ : rho _ _ _ vs = ρ
            have e21 : ρ (.tmp 21) = .pointer (some ⟨g21, 0, none⟩) := by rw [← hρ]; kernel_rfl
            clear hρ hV
            exact runs_load 34 (.tmp 21) rfl g21 e21 34 (boardC Vh m) (0, 0) _ (((hb.block g21 (blk_lt (HP22.out.get (i := 1) rfl))).trans (HP22.out.get (i := 1) rfl))) Try.underlying34 rfl (HI _ _).out ⟨Below.refl _ _, rfl⟩
          case r19_3o4 =>
            intro vs w hb hV
            rw [if_pos (by kernel_rfl)]
            generalize hρ : rho _ _ _ vs = ρ
            have e17 : ρ (.tmp 17) = .pointer (some ⟨gb, 0, none⟩) := by rw [← hρ]; kernel_rfl
            clear hρ hV
            exact runs_load 34 (.tmp 17) rfl gb e17 34 (boardC h m) (0, 0) _ (((hb.block gb (blk_lt (HP22.out.get (i := 4) rfl))).trans (HP22.out.get (i := 4) rfl))) Try.underlying34 rfl (HI _ _).out ⟨Below.refl _ _, rfl⟩
          case r19_3o5 =>
            intro vs w hb hV
            rw [if_pos (by kernel_rfl)]
            generalize hρ : rho _ _ _ vs = ρ
            have e3 : ρ (.tmp 3) = .int .i64 o := by rw [← hρ]; kernel_rfl
            clear hρ hV
            refine runs_val (v := .int .i64 o) (w' := w) ?_ ⟨Below.refl _ _, rfl⟩
            go_simp <;> (first | exact IntWalk.u64_in _ (by omega) | exact IntWalk.u32_in _ (by omega) | exact IntWalk.u16_in _ (by omega) | exact IntWalk.u8_in _ (by omega) | exact IntWalk.i64_in _ (by omega) | skip)
          case r19_3o6 =>
            intro vs w hb hV
            rw [if_pos (by kernel_rfl)]
            generalize hρ : rho _ _ _ vs = ρ
            have d119 : (vs 4) = .agg (boardC h m) := hV 4 (by kernel_rfl)
            have e119 : ρ (.tmp 119) = vs 4 := by rw [← hρ]; kernel_rfl
            rw [d119] at e119; clear d119
            have d120 : (vs 5) = .int .i64 o := hV 5 (by kernel_rfl)
            have e120 : ρ (.tmp 120) = vs 5 := by rw [← hρ]; kernel_rfl
            rw [d120] at e120; clear d120
            have ef16 : ρ (.func 16) = .func (.func 16) #[] #[] := by rw [← hρ]; rfl
            clear hρ hV
            refine runs_call (f := 16) (args := #[.agg (boardC h m), .int .i64 o]) (w' := w) ?_ ?_
            · go_simp
            · refine (KW.out.2 _).mono ?_
              rintro e w5 ⟨rfl, hb5⟩
              exact ⟨_, rfl, hb5, rfl⟩
          case r19_3o7 =>
            intro vs w hb hV
            rw [if_pos (by kernel_rfl)]
            generalize hρ : rho _ _ _ vs = ρ
            have d118 : (vs 3) = .agg (boardC Vh m) := hV 3 (by kernel_rfl)
            have e118 : ρ (.tmp 118) = vs 3 := by rw [← hρ]; kernel_rfl
            rw [d118] at e118; clear d118
            have d121 : (vs 6) = .agg (boardC Vh m) := hV 6 (by kernel_rfl)
            have e121 : ρ (.tmp 121) = vs 6 := by rw [← hρ]; kernel_rfl
            rw [d121] at e121; clear d121
            clear hρ hV
            obtain ⟨hbe, hbg⟩ := HBE.out
            refine runs_val (v := .bool true) (w' := w) ?_ ⟨Below.refl _ _, rfl⟩
            go_simp
          case r19_3o8 =>
            intro vs w hb hV
            rw [if_pos (by kernel_rfl)]
            generalize hρ : rho _ _ _ vs = ρ
            have d117 : (vs 2) = .bool true := hV 2 (by kernel_rfl)
            have e117 : ρ (.tmp 117) = vs 2 := by rw [← hρ]; kernel_rfl
            rw [d117] at e117; clear d117
            have d122 : (vs 7) = .bool true := hV 7 (by kernel_rfl)
            have e122 : ρ (.tmp 122) = vs 7 := by rw [← hρ]; kernel_rfl
            rw [d122] at e122; clear d122
            have econ : ∀ v : Value, ρ (.const v) = v := fun v => by rw [← hρ]; rfl
            clear hρ hV
            refine runs_val (v := .bool true) (w' := w) ?_ ⟨Below.refl _ _, rfl⟩
            go_simp <;> (first | exact IntWalk.u64_in _ (by omega) | exact IntWalk.u32_in _ (by omega) | exact IntWalk.u16_in _ (by omega) | exact IntWalk.u8_in _ (by omega) | exact IntWalk.i64_in _ (by omega) | skip)
          case r19_3o9 =>
            intro vs w hb hV
            rw [if_pos (by kernel_rfl)]
            generalize hρ : rho _ _ _ vs = ρ
            have d123 : (vs 8) = .bool true := hV 8 (by kernel_rfl)
            have e123 : ρ (.tmp 123) = vs 8 := by rw [← hρ]; kernel_rfl
            clear hρ hV
            refine runs_val (v := vs 8) (w' := w) ?_ ⟨Below.refl _ _, d123⟩
            go_simp
          case r19_3o10 =>
            intro vs w hb hV
            rw [if_pos (by kernel_rfl)]
            generalize hρ : rho _ _ _ vs = ρ
            have e24 : ρ (.tmp 24) = .int .i64 0 := by rw [← hρ]; kernel_rfl
            clear hρ hV
            refine runs_val (v := .int .i64 0) (w' := w) ?_ ⟨Below.refl _ _, rfl⟩
            go_simp <;> (first | exact IntWalk.u64_in _ (by omega) | exact IntWalk.u32_in _ (by omega) | exact IntWalk.u16_in _ (by omega) | exact IntWalk.u8_in _ (by omega) | exact IntWalk.i64_in _ (by omega) | skip)
          case r19_3o11 =>
            intro vs w hb hV
            rw [if_pos (by kernel_rfl)]
            generalize hρ : rho _ _ _ vs = ρ
            have d125 : (vs 10) = .int .i64 0 := hV 10 (by kernel_rfl)
            have e125 : ρ (.tmp 125) = vs 10 := by rw [← hρ]; kernel_rfl
            rw [d125] at e125; clear d125
            have econ : ∀ v : Value, ρ (.const v) = v := fun v => by rw [← hρ]; rfl
            clear hρ hV
            refine runs_val (v := .bool true) (w' := w) ?_ ⟨Below.refl _ _, rfl⟩
            go_simp <;> (first | exact IntWalk.u64_in _ (by omega) | exact IntWalk.u32_in _ (by omega) | exact IntWalk.u16_in _ (by omega) | exact IntWalk.u8_in _ (by omega) | exact IntWalk.i64_in _ (by omega) | skip)
          case r19_3o12 =>
            intro vs w hb hV
            rw [if_pos (by kernel_rfl)]
            generalize hρ : rho _ _ _ vs = ρ
            have d124 : (vs 9) = .bool true := hV 9 (by kernel_rfl)
            have e124 : ρ (.tmp 124) = vs 9 := by rw [← hρ]; kernel_rfl
            rw [d124] at e124; clear d124
            have d126 : (vs 11) = .bool true := hV 11 (by kernel_rfl)
            have e126 : ρ (.tmp 126) = vs 11 := by rw [← hρ]; kernel_rfl
            rw [d126] at e126; clear d126
            have econ : ∀ v : Value, ρ (.const v) = v := fun v => by rw [← hρ]; rfl
            clear hρ hV
            refine runs_val (v := .bool true) (w' := w) ?_ ⟨Below.refl _ _, rfl⟩
            go_simp <;> (first | exact IntWalk.u64_in _ (by omega) | exact IntWalk.u32_in _ (by omega) | exact IntWalk.u16_in _ (by omega) | exact IntWalk.u8_in _ (by omega) | exact IntWalk.i64_in _ (by omega) | skip)
          case r19_3o13 =>
            intro vs w hb hV
            rw [if_pos (by kernel_rfl)]
            generalize hρ : rho _ _ _ vs = ρ
            have d127 : (vs 12) = .bool true := hV 12 (by kernel_rfl)
            have e127 : ρ (.tmp 127) = vs 12 := by rw [← hρ]; kernel_rfl
            clear hρ hV
            refine runs_val (v := vs 12) (w' := w) ?_ ⟨Below.refl _ _, d127⟩
            go_simp
          case r19_3o14 =>
            intro vs w hb hV
            rw [if_pos (by kernel_rfl)]
            generalize hρ : rho _ _ _ vs = ρ
            have e23 : ρ (.tmp 23) = .pointer (some ⟨g23, 0, none⟩) := by rw [← hρ]; kernel_rfl
            clear hρ hV
            exact runs_load 34 (.tmp 23) rfl g23 e23 34 (boardC Vh m) (0, 0) _ (((hb.block g23 (blk_lt (HP22.out.get (i := 0) rfl))).trans (HP22.out.get (i := 0) rfl))) Try.underlying34 rfl (HI _ _).out ⟨Below.refl _ _, rfl⟩
          case r19_3o15 =>
            intro vs w hb hV
            rw [if_pos (by kernel_rfl)]
            generalize hρ : rho _ _ _ vs = ρ
            have e17 : ρ (.tmp 17) = .pointer (some ⟨gb, 0, none⟩) := by rw [← hρ]; kernel_rfl
            clear hρ hV
            exact runs_load 34 (.tmp 17) rfl gb e17 34 (boardC h m) (0, 0) _ (((hb.block gb (blk_lt (HP22.out.get (i := 4) rfl))).trans (HP22.out.get (i := 4) rfl))) Try.underlying34 rfl (HI _ _).out ⟨Below.refl _ _, rfl⟩
          case r19_3o16 =>
            intro vs w hb hV
            rw [if_pos (by kernel_rfl)]
            generalize hρ : rho _ _ _ vs = ρ
            have e3 : ρ (.tmp 3) = .int .i64 o := by rw [← hρ]; kernel_rfl
            clear hρ hV
            refine runs_val (v := .int .i64 o) (w' := w) ?_ ⟨Below.refl _ _, rfl⟩
            go_simp <;> (first | exact IntWalk.u64_in _ (by omega) | exact IntWalk.u32_in _ (by omega) | exact IntWalk.u16_in _ (by omega) | exact IntWalk.u8_in _ (by omega) | exact IntWalk.i64_in _ (by omega) | skip)
          case r19_3o17 =>
            intro vs w hb hV
            rw [if_pos (by kernel_rfl)]
            generalize hρ : rho _ _ _ vs = ρ
            have d130 : (vs 15) = .agg (boardC h m) := hV 15 (by kernel_rfl)
            have e130 : ρ (.tmp 130) = vs 15 := by rw [← hρ]; kernel_rfl
            rw [d130] at e130; clear d130
            have d131 : (vs 16) = .int .i64 o := hV 16 (by kernel_rfl)
            have e131 : ρ (.tmp 131) = vs 16 := by rw [← hρ]; kernel_rfl
            rw [d131] at e131; clear d131
            have ef16 : ρ (.func 16) = .func (.func 16) #[] #[] := by rw [← hρ]; rfl
            clear hρ hV
            refine runs_call (f := 16) (args := #[.agg (boardC h m), .int .i64 o]) (w' := w) ?_ ?_
            · go_simp
            · refine (KW.out.2 _).mono ?_
              rintro e w5 ⟨rfl, hb5⟩
              exact ⟨_, rfl, hb5, rfl⟩
          case r19_3o18 =>
            intro vs w hb hV
            rw [if_pos (by kernel_rfl)]
            generalize hρ : rho _ _ _ vs = ρ
            have d129 : (vs 14) = .agg (boardC Vh m) := hV 14 (by kernel_rfl)
            have e129 : ρ (.tmp 129) = vs 14 := by rw [← hρ]; kernel_rfl
            rw [d129] at e129; clear d129
            have d132 : (vs 17) = .agg (boardC Vh m) := hV 17 (by kernel_rfl)
            have e132 : ρ (.tmp 132) = vs 17 := by rw [← hρ]; kernel_rfl
            rw [d132] at e132; clear d132
            clear hρ hV
            obtain ⟨hbe, hbg⟩ := HBE.out
            refine runs_val (v := .bool true) (w' := w) ?_ ⟨Below.refl _ _, rfl⟩
            go_simp
          case r19_3o19 =>
            intro vs w hb hV
            rw [if_pos (by kernel_rfl)]
            generalize hρ : rho _ _ _ vs = ρ
            have d128 : (vs 13) = .bool true := hV 13 (by kernel_rfl)
            have e128 : ρ (.tmp 128) = vs 13 := by rw [← hρ]; kernel_rfl
            rw [d128] at e128; clear d128
            have d133 : (vs 18) = .bool true := hV 18 (by kernel_rfl)
            have e133 : ρ (.tmp 133) = vs 18 := by rw [← hρ]; kernel_rfl
            rw [d133] at e133; clear d133
            have econ : ∀ v : Value, ρ (.const v) = v := fun v => by rw [← hρ]; rfl
            clear hρ hV
            refine runs_val (v := .bool true) (w' := w) ?_ ⟨Below.refl _ _, rfl⟩
            go_simp <;> (first | exact IntWalk.u64_in _ (by omega) | exact IntWalk.u32_in _ (by omega) | exact IntWalk.u16_in _ (by omega) | exact IntWalk.u8_in _ (by omega) | exact IntWalk.i64_in _ (by omega) | skip)
          case r19_3o20 =>
            intro vs w hb hV
            rw [if_pos (by kernel_rfl)]
            generalize hρ : rho _ _ _ vs = ρ
            have d134 : (vs 19) = .bool true := hV 19 (by kernel_rfl)
            have e134 : ρ (.tmp 134) = vs 19 := by rw [← hρ]; kernel_rfl
            clear hρ hV
            refine runs_val (v := vs 19) (w' := w) ?_ ⟨Below.refl _ _, d134⟩
            go_simp
          case r19_3o21 =>
            intro vs w hb hV
            rw [if_pos (by kernel_rfl)]
            generalize hρ : rho _ _ _ vs = ρ
            have e25 : ρ (.tmp 25) = .int .i64 bn := by rw [← hρ]; kernel_rfl
            clear hρ hV
            refine runs_val (v := .int .i64 bn) (w' := w) ?_ ⟨Below.refl _ _, rfl⟩
            go_simp <;> (first | exact IntWalk.u64_in _ (by omega) | exact IntWalk.u32_in _ (by omega) | exact IntWalk.u16_in _ (by omega) | exact IntWalk.u8_in _ (by omega) | exact IntWalk.i64_in _ (by omega) | skip)
          case r19_3o22 =>
            intro vs w hb hV
            rw [if_pos (by kernel_rfl)]
            generalize hρ : rho _ _ _ vs = ρ
            have e2 : ρ (.tmp 2) = .int .u64 t := by rw [← hρ]; kernel_rfl
            clear hρ hV
            refine runs_val (v := .int .u64 t) (w' := w) ?_ ⟨Below.refl _ _, rfl⟩
            go_simp <;> (first | exact IntWalk.u64_in _ (by omega) | exact IntWalk.u32_in _ (by omega) | exact IntWalk.u16_in _ (by omega) | exact IntWalk.u8_in _ (by omega) | exact IntWalk.i64_in _ (by omega) | skip)
          case r19_3o23 =>
            intro vs w hb hV
            rw [if_pos (by kernel_rfl)]
            generalize hρ : rho _ _ _ vs = ρ
            have e17 : ρ (.tmp 17) = .pointer (some ⟨gb, 0, none⟩) := by rw [← hρ]; kernel_rfl
            clear hρ hV
            exact runs_load 34 (.tmp 17) rfl gb e17 34 (boardC h m) (0, 0) _ (((hb.block gb (blk_lt (HP22.out.get (i := 4) rfl))).trans (HP22.out.get (i := 4) rfl))) Try.underlying34 rfl (HI _ _).out ⟨Below.refl _ _, rfl⟩
          case r19_3o24 =>
            intro vs w hb hV
            rw [if_pos (by kernel_rfl)]
            generalize hρ : rho _ _ _ vs = ρ
            have d137 : (vs 22) = .int .u64 t := hV 22 (by kernel_rfl)
            have e137 : ρ (.tmp 137) = vs 22 := by rw [← hρ]; kernel_rfl
            rw [d137] at e137; clear d137
            have d138 : (vs 23) = .agg (boardC h m) := hV 23 (by kernel_rfl)
            have e138 : ρ (.tmp 138) = vs 23 := by rw [← hρ]; kernel_rfl
            rw [d138] at e138; clear d138
            have ef25 : ρ (.func 25) = .func (.func 25) #[] #[] := by rw [← hρ]; rfl
            clear hρ hV
            refine runs_call (f := 25) (args := #[.int .u64 t, .agg (boardC h m)]) (w' := w) ?_ ?_
            · go_simp
            · refine (HSZ.out _).mono ?_
              rintro e w5 ⟨rfl, hb5⟩
              exact ⟨_, rfl, hb5, rfl⟩
          case r19_3o25 =>
            intro vs w hb hV
            rw [if_pos (by kernel_rfl)]
            generalize hρ : rho _ _ _ vs = ρ
            have d136 : (vs 21) = .int .i64 bn := hV 21 (by kernel_rfl)
            have e136 : ρ (.tmp 136) = vs 21 := by rw [← hρ]; kernel_rfl
            rw [d136] at e136; clear d136
            have d139 : (vs 24) = .int .i64 bn := hV 24 (by kernel_rfl)
            have e139 : ρ (.tmp 139) = vs 24 := by rw [← hρ]; kernel_rfl
            rw [d139] at e139; clear d139
            clear hρ hV
            refine runs_val (v := .bool true) (w' := w) ?_ ⟨Below.refl _ _, rfl⟩
            go_simp <;> (first | exact IntWalk.u64_in _ (by omega) | exact IntWalk.u32_in _ (by omega) | exact IntWalk.u16_in _ (by omega) | exact IntWalk.u8_in _ (by omega) | exact IntWalk.i64_in _ (by omega) | skip)
          case r19_3o26 =>
            intro vs w hb hV
            rw [if_pos (by kernel_rfl)]
            generalize hρ : rho _ _ _ vs = ρ
            have d135 : (vs 20) = .bool true := hV 20 (by kernel_rfl)
            have e135 : ρ (.tmp 135) = vs 20 := by rw [← hρ]; kernel_rfl
            rw [d135] at e135; clear d135
            have d140 : (vs 25) = .bool true := hV 25 (by kernel_rfl)
            have e140 : ρ (.tmp 140) = vs 25 := by rw [← hρ]; kernel_rfl
            rw [d140] at e140; clear d140
            have econ : ∀ v : Value, ρ (.const v) = v := fun v => by rw [← hρ]; rfl
            clear hρ hV
            refine runs_val (v := .bool true) (w' := w) ?_ ⟨Below.refl _ _, rfl⟩
            go_simp <;> (first | exact IntWalk.u64_in _ (by omega) | exact IntWalk.u32_in _ (by omega) | exact IntWalk.u16_in _ (by omega) | exact IntWalk.u8_in _ (by omega) | exact IntWalk.i64_in _ (by omega) | skip)
          case r19_3o27 =>
            intro vs w hb hV
            rw [if_pos (by kernel_rfl)]
            generalize hρ : rho _ _ _ vs = ρ
            have d141 : (vs 26) = .bool true := hV 26 (by kernel_rfl)
            have e141 : ρ (.tmp 141) = vs 26 := by rw [← hρ]; kernel_rfl
            clear hρ hV
            refine runs_val (v := vs 26) (w' := w) ?_ ⟨Below.refl _ _, d141⟩
            go_simp
          case r19_3o28 =>
            intro vs w hb hV
            rw [if_pos (by kernel_rfl)]
            generalize hρ : rho _ _ _ vs = ρ
            have e25 : ρ (.tmp 25) = .int .i64 bn := by rw [← hρ]; kernel_rfl
            clear hρ hV
            refine runs_val (v := .int .i64 bn) (w' := w) ?_ ⟨Below.refl _ _, rfl⟩
            go_simp <;> (first | exact IntWalk.u64_in _ (by omega) | exact IntWalk.u32_in _ (by omega) | exact IntWalk.u16_in _ (by omega) | exact IntWalk.u8_in _ (by omega) | exact IntWalk.i64_in _ (by omega) | skip)
          case r19_3o29 =>
            intro vs w hb hV
            rw [if_pos (by kernel_rfl)]
            generalize hρ : rho _ _ _ vs = ρ
            have e17 : ρ (.tmp 17) = .pointer (some ⟨gb, 0, none⟩) := by rw [← hρ]; kernel_rfl
            clear hρ hV
            exact runs_load 34 (.tmp 17) rfl gb e17 34 (boardC h m) (0, 0) _ (((hb.block gb (blk_lt (HP22.out.get (i := 4) rfl))).trans (HP22.out.get (i := 4) rfl))) Try.underlying34 rfl (HI _ _).out ⟨Below.refl _ _, rfl⟩
          case r19_3o30 =>
            intro vs w hb hV
            rw [if_pos (by kernel_rfl)]
            generalize hρ : rho _ _ _ vs = ρ
            have e2 : ρ (.tmp 2) = .int .u64 t := by rw [← hρ]; kernel_rfl
            clear hρ hV
            refine runs_val (v := .int .u64 t) (w' := w) ?_ ⟨Below.refl _ _, rfl⟩
            go_simp <;> (first | exact IntWalk.u64_in _ (by omega) | exact IntWalk.u32_in _ (by omega) | exact IntWalk.u16_in _ (by omega) | exact IntWalk.u8_in _ (by omega) | exact IntWalk.i64_in _ (by omega) | skip)
          case r19_3o31 =>
            intro vs w hb hV
            rw [if_pos (by kernel_rfl)]
            generalize hρ : rho _ _ _ vs = ρ
            have e4 : ρ (.tmp 4) = .int .i64 p := by rw [← hρ]; kernel_rfl
            clear hρ hV
            refine runs_val (v := .int .i64 p) (w' := w) ?_ ⟨Below.refl _ _, rfl⟩
            go_simp <;> (first | exact IntWalk.u64_in _ (by omega) | exact IntWalk.u32_in _ (by omega) | exact IntWalk.u16_in _ (by omega) | exact IntWalk.u8_in _ (by omega) | exact IntWalk.i64_in _ (by omega) | skip)
          case r19_3o32 =>
            intro vs w hb hV
            rw [if_pos (by kernel_rfl)]
            generalize hρ : rho _ _ _ vs = ρ
            have e5 : ρ (.tmp 5) = .int .u32 tk := by rw [← hρ]; kernel_rfl
            clear hρ hV
            refine runs_val (v := .int .u32 tk) (w' := w) ?_ ⟨Below.refl _ _, rfl⟩
            go_simp <;> (first | exact IntWalk.u64_in _ (by omega) | exact IntWalk.u32_in _ (by omega) | exact IntWalk.u16_in _ (by omega) | exact IntWalk.u8_in _ (by omega) | exact IntWalk.i64_in _ (by omega) | skip)
          case r19_3o33 =>
            intro vs w hb hV
            rw [if_pos (by kernel_rfl)]
            generalize hρ : rho _ _ _ vs = ρ
            have d144 : (vs 29) = .agg (boardC h m) := hV 29 (by kernel_rfl)
            have e144 : ρ (.tmp 144) = vs 29 := by rw [← hρ]; kernel_rfl
            rw [d144] at e144; clear d144
            have d145 : (vs 30) = .int .u64 t := hV 30 (by kernel_rfl)
            have e145 : ρ (.tmp 145) = vs 30 := by rw [← hρ]; kernel_rfl
            rw [d145] at e145; clear d145
            have d146 : (vs 31) = .int .i64 p := hV 31 (by kernel_rfl)
            have e146 : ρ (.tmp 146) = vs 31 := by rw [← hρ]; kernel_rfl
            rw [d146] at e146; clear d146
            have d147 : (vs 32) = .int .u32 tk := hV 32 (by kernel_rfl)
            have e147 : ρ (.tmp 147) = vs 32 := by rw [← hρ]; kernel_rfl
            rw [d147] at e147; clear d147
            have ef13 : ρ (.func 13) = .func (.func 13) #[] #[] := by rw [← hρ]; rfl
            clear hρ hV
            refine runs_call (f := 13) (args := #[.agg (boardC h m), .int .u64 t, .int .i64 p, .int .u32 tk]) (w' := w) ?_ ?_
            · go_simp
            · refine (KP.out _).mono ?_
              rintro e w5 ⟨v, rfl, hv, hb5⟩
              exact ⟨_, rfl, hb5, hv⟩
          case r19_3o34 =>
            intro vs w hb hV
            rw [if_pos (by kernel_rfl)]
            generalize hρ : rho _ _ _ vs = ρ
            have d148 : (fun (w : World) (v : Value) => DvC w tk hsp P1 C5 v) w (vs 33) := hV 33 (by kernel_rfl)
            have e148 : ρ (.tmp 148) = vs 33 := by rw [← hρ]; kernel_rfl
            have ef14 : ρ (.func 14) = .func (.func 14) #[] #[] := by rw [← hρ]; rfl
            clear hρ hV
            refine runs_call (f := 14) (args := #[vs 33]) (w' := w) ?_ ?_
            · go_simp
            · refine (KZ.out _ _ d148).mono ?_
              rintro e w5 ⟨v, rfl, hv, hb5⟩
              exact ⟨_, rfl, hb5, hv⟩
          case r19_3o35 =>
            intro vs w hb hV
            rw [if_pos (by kernel_rfl)]
            generalize hρ : rho _ _ _ vs = ρ
            have d149 : (fun (w : World) (v : Value) => BvC w (dBytes tk hsp P1 C5) v) w (vs 34) := hV 34 (by kernel_rfl)
            have e149 : ρ (.tmp 149) = vs 34 := by rw [← hρ]; kernel_rfl
            clear hρ hV
            obtain ⟨A10, c10, e10, _, _⟩ := d149
            rw [HLZ.out] at e10
            rw [e10] at e149
            refine runs_val (v := .int .i64 bn) (w' := w) ?_ ⟨Below.refl _ _, rfl⟩
            go_simp
          case r19_3o36 =>
            intro vs w hb hV
            rw [if_pos (by kernel_rfl)]
            generalize hρ : rho _ _ _ vs = ρ
            have d143 : (vs 28) = .int .i64 bn := hV 28 (by kernel_rfl)
            have e143 : ρ (.tmp 143) = vs 28 := by rw [← hρ]; kernel_rfl
            rw [d143] at e143; clear d143
            have d150 : (vs 35) = .int .i64 bn := hV 35 (by kernel_rfl)
            have e150 : ρ (.tmp 150) = vs 35 := by rw [← hρ]; kernel_rfl
            rw [d150] at e150; clear d150
            clear hρ hV
            refine runs_val (v := .bool true) (w' := w) ?_ ⟨Below.refl _ _, rfl⟩
            go_simp <;> (first | exact IntWalk.u64_in _ (by omega) | exact IntWalk.u32_in _ (by omega) | exact IntWalk.u16_in _ (by omega) | exact IntWalk.u8_in _ (by omega) | exact IntWalk.i64_in _ (by omega) | skip)
          case r19_3o37 =>
            intro vs w hb hV
            rw [if_pos (by kernel_rfl)]
            generalize hρ : rho _ _ _ vs = ρ
            have d142 : (vs 27) = .bool true := hV 27 (by kernel_rfl)
            have e142 : ρ (.tmp 142) = vs 27 := by rw [← hρ]; kernel_rfl
            rw [d142] at e142; clear d142
            have d151 : (vs 36) = .bool true := hV 36 (by kernel_rfl)
            have e151 : ρ (.tmp 151) = vs 36 := by rw [← hρ]; kernel_rfl
            rw [d151] at e151; clear d151
            have econ : ∀ v : Value, ρ (.const v) = v := fun v => by rw [← hρ]; rfl
            clear hρ hV
            refine runs_val (v := .bool true) (w' := w) ?_ ⟨Below.refl _ _, rfl⟩
            go_simp <;> (first | exact IntWalk.u64_in _ (by omega) | exact IntWalk.u32_in _ (by omega) | exact IntWalk.u16_in _ (by omega) | exact IntWalk.u8_in _ (by omega) | exact IntWalk.i64_in _ (by omega) | skip)
          case r19_3o38 =>
            intro vs w hb hV
            rw [if_pos (by kernel_rfl)]
            generalize hρ : rho _ _ _ vs = ρ
            have d152 : (vs 37) = .bool true := hV 37 (by kernel_rfl)
            have e152 : ρ (.tmp 152) = vs 37 := by rw [← hρ]; kernel_rfl
            clear hρ hV
            refine runs_val (v := vs 37) (w' := w) ?_ ⟨Below.refl _ _, d152⟩
            go_simp
          case r19_3e =>
            intro vs x13 hb13 hV
            have d115 : (vs 0) = .int .i64 0 := hV 0 (Nat.le_of_ble_eq_true rfl)
            have d116 : (vs 1) = .bool true := hV 1 (Nat.le_of_ble_eq_true rfl)
            have d117 : (vs 2) = .bool true := hV 2 (Nat.le_of_ble_eq_true rfl)
            have d118 : (vs 3) = .agg (boardC Vh m) := hV 3 (Nat.le_of_ble_eq_true rfl)
            have d119 : (vs 4) = .agg (boardC h m) := hV 4 (Nat.le_of_ble_eq_true rfl)
            have d120 : (vs 5) = .int .i64 o := hV 5 (Nat.le_of_ble_eq_true rfl)
            have d121 : (vs 6) = .agg (boardC Vh m) := hV 6 (Nat.le_of_ble_eq_true rfl)
            have d122 : (vs 7) = .bool true := hV 7 (Nat.le_of_ble_eq_true rfl)
            have d123 : (vs 8) = .bool true := hV 8 (Nat.le_of_ble_eq_true rfl)
            have d124 : (vs 9) = .bool true := hV 9 (Nat.le_of_ble_eq_true rfl)
            have d125 : (vs 10) = .int .i64 0 := hV 10 (Nat.le_of_ble_eq_true rfl)
            have d126 : (vs 11) = .bool true := hV 11 (Nat.le_of_ble_eq_true rfl)
            have d127 : (vs 12) = .bool true := hV 12 (Nat.le_of_ble_eq_true rfl)
            have d128 : (vs 13) = .bool true := hV 13 (Nat.le_of_ble_eq_true rfl)
            have d129 : (vs 14) = .agg (boardC Vh m) := hV 14 (Nat.le_of_ble_eq_true rfl)
            have d130 : (vs 15) = .agg (boardC h m) := hV 15 (Nat.le_of_ble_eq_true rfl)
            have d131 : (vs 16) = .int .i64 o := hV 16 (Nat.le_of_ble_eq_true rfl)
            have d132 : (vs 17) = .agg (boardC Vh m) := hV 17 (Nat.le_of_ble_eq_true rfl)
            have d133 : (vs 18) = .bool true := hV 18 (Nat.le_of_ble_eq_true rfl)
            have d134 : (vs 19) = .bool true := hV 19 (Nat.le_of_ble_eq_true rfl)
            have d135 : (vs 20) = .bool true := hV 20 (Nat.le_of_ble_eq_true rfl)
            have d136 : (vs 21) = .int .i64 bn := hV 21 (Nat.le_of_ble_eq_true rfl)
            have d137 : (vs 22) = .int .u64 t := hV 22 (Nat.le_of_ble_eq_true rfl)
            have d138 : (vs 23) = .agg (boardC h m) := hV 23 (Nat.le_of_ble_eq_true rfl)
            have d139 : (vs 24) = .int .i64 bn := hV 24 (Nat.le_of_ble_eq_true rfl)
            have d140 : (vs 25) = .bool true := hV 25 (Nat.le_of_ble_eq_true rfl)
            have d141 : (vs 26) = .bool true := hV 26 (Nat.le_of_ble_eq_true rfl)
            have d142 : (vs 27) = .bool true := hV 27 (Nat.le_of_ble_eq_true rfl)
            have d143 : (vs 28) = .int .i64 bn := hV 28 (Nat.le_of_ble_eq_true rfl)
            have d144 : (vs 29) = .agg (boardC h m) := hV 29 (Nat.le_of_ble_eq_true rfl)
            have d145 : (vs 30) = .int .u64 t := hV 30 (Nat.le_of_ble_eq_true rfl)
            have d146 : (vs 31) = .int .i64 p := hV 31 (Nat.le_of_ble_eq_true rfl)
            have d147 : (vs 32) = .int .u32 tk := hV 32 (Nat.le_of_ble_eq_true rfl)
            have d148 : (fun (w : World) (v : Value) => DvC w tk hsp P1 C5 v) x13 (vs 33) := hV 33 (Nat.le_of_ble_eq_true rfl)
            have d149 : (fun (w : World) (v : Value) => BvC w (dBytes tk hsp P1 C5) v) x13 (vs 34) := hV 34 (Nat.le_of_ble_eq_true rfl)
            have d150 : (vs 35) = .int .i64 bn := hV 35 (Nat.le_of_ble_eq_true rfl)
            have d151 : (vs 36) = .bool true := hV 36 (Nat.le_of_ble_eq_true rfl)
            have d152 : (vs 37) = .bool true := hV 37 (Nat.le_of_ble_eq_true rfl)
            have d12 : (vs 38) = .bool true := hV 38 (Nat.le_of_ble_eq_true rfl)
            clear hV
            simp only [putAll]
            rw [d115, d116, d117, d118, d119, d120, d121, d122, d123, d124, d125, d126, d127, d128, d129, d130, d131, d132, d133, d134, d135, d136, d137, d138, d139, d140, d141, d142, d143, d144, d145, d146, d147, d150, d151, d152, d12]
            clear d115 d116 d117 d118 d119 d120 d121 d122 d123 d124 d125 d126 d127 d128 d129 d130 d131 d132 d133 d134 d135 d136 d137 d138 d139 d140 d141 d142 d143 d144 d145 d146 d147 d150 d151 d152 d12
            generalize vs 33 = v148 at *
            generalize vs 34 = v149 at *
            clear vs
            simp only [Act.put, List.setIfInBounds_toArray, List.set_cons_zero, List.set_cons_succ]
            have HP23 := Aside0.mk (HP22.out.call hb13)
            clear hb13 HP22 d148 d149
            go_wp2_with fail
            go_ret
            exact ⟨rfl, HP23.out.bel⟩
  · rw [HML.out] at hg2 hcu
    rw [HML.out]
    rw [HF.out] at hcu
    have HP4 := Aside0.mk (show Hp w.heap.size w w4 [(g, .cells cur 30 (0, 0))] [fun X => k30.R 30 X w.heap.size (fun _ => True) (.slice Q2 m2 d2) M2, fun X => k30.R 30 X w.heap.size (fun _ => True) (.slice Q m d) M] from HP3.out.found hb4 hg1 hg3)
    have HCU : Aside0 (Cur cur m (nextF f f2 t m2 0)) := ⟨by rw [nextF_zero]; exact hcu⟩
    have HDM := Aside0.mk hg2
    clear hv4 hb4 HP3 hg1 hg2 hg3 hcu
    go_wp2_with fail
    go_loopw [37] (fun v37 wr => ∃ i : Nat, i ≤ m ∧ v37 = .int .i64 i ∧ Aside0 (∃ cur, Hp w.heap.size w wr [(g, .cells cur 30 (0, 0))] [fun X => k30.R 30 X w.heap.size (fun _ => True) (.slice Q2 m2 d2) M2, fun X => k30.R 30 X w.heap.size (fun _ => True) (.slice Q m d) M] ∧ Cur cur m (nextF f f2 t m2 i))) (fun v37 _ => m - (intOf v37).toNat)
    case atStart => exact ⟨0, by omega, rfl, ⟨cur, HP4.out, HCU.out⟩⟩
    case round =>
      clear HP4 HCU
      obtain ⟨i, hi, rfl, H⟩ := hrel
      by_cases hlt : i < m
      · have d1 : decide (i < m) = true := decide_eq_true hlt
        have hi48 : (i : Int) < m := by omega
        have hi0 : (0 : Int) ≤ i := by omega
        have hm48 : m ≤ 48 := H48.out
        have es := shr_div t i HT.out.1 (by omega)
        have hm248 : (m2 : Int) ≤ 48 := by have := H482.out; omega
        cases hbt : bitT t i with
        | false =>
          have e2 := bit7_no hbt
          have HK := Aside0.mk (nextF_no (f := f) (f2 := f2) (t := t) (m2 := m2) (i := i) (fun h => by rw [hbt] at h; cases h.1))
          have H2 : Aside0 (∃ cur, Hp w.heap.size w wr [(g, .cells cur 30 (0, 0))] [fun X => k30.R 30 X w.heap.size (fun _ => True) (.slice Q2 m2 d2) M2, fun X => k30.R 30 X w.heap.size (fun _ => True) (.slice Q m d) M] ∧ Cur cur m (nextF f f2 t m2 (i + 1))) := ⟨by rw [HK.out]; exact H.out⟩
          clear hbt es H
          go_wp2_with fail
          go_roundw
          case rel => exact ⟨i + 1, by omega, by go_num, H2⟩
          case measure => simp [intOf]; omega
        | true =>
          have e2 := bit7_yes hbt
          by_cases hiq : i < m2
          · have dq2 : decide (i < m2) = true := decide_eq_true hiq
            have hiq' : (i : Int) < m2 := by omega
            have HK := Aside0.mk (nextF_yes (f := f) (f2 := f2) hbt hiq)
            obtain ⟨cu, HQ⟩ := H.out
            have HQ := Aside0.mk HQ
            have hi2 : i < M2.length := by rw [HML2.out]; exact hiq
            obtain ⟨ad2, hq2, q0, q1⟩ := cell_at25 (Ru_C (HQ.out.1.fact (i := 0) rfl)).2.2 hi2
            have hx : M2[i] = f2 i := by rw [← HF2.out, fL_get hi2]
            rw [hx] at q0 q1
            obtain ⟨x, hx2⟩ : ∃ x, f2 i = x := ⟨_, rfl⟩
            rw [hx2] at q0 q1 HK
            subst hq2
            have c1 : wr.cell? ⟨g, i * 2 + 1, none⟩ = some (.int .u32 (nextF f f2 t m2 i i).f1) := by
              have := (blk_cell (HQ.out.1.get (i := 0) rfl) (2 * i + 1)).trans (HQ.out.2 i hlt).2
              rw [Nat.mul_comm] at this
              exact this
            have c0 : wr.cell? ⟨g, i * 2, none⟩ = some (.int .i32 (nextF f f2 t m2 i i).f0) := by
              have := (blk_cell (HQ.out.1.get (i := 0) rfl) (2 * i)).trans (HQ.out.2 i hlt).1
              rw [Nat.mul_comm] at this
              exact this
            have f0' : wr.frozen? ⟨g, i * 2, none⟩ = false := blk_frozen (HQ.out.1.get (i := 0) rfl) (i * 2)
            have f1' : wr.frozen? ⟨g, i * 2 + 1, none⟩ = false := blk_frozen (HQ.out.1.get (i := 0) rfl) (i * 2 + 1)
            have hlt' := Aside0.mk hlt
            have H2 : Aside0 (∃ cur, Hp w.heap.size w ((wr.setCell ⟨g, i * 2, none⟩ (.int .i32 x.f0)).setCell ⟨g, i * 2 + 1, none⟩ (.int .u32 x.f1)) [(g, .cells cur 30 (0, 0))] [fun X => k30.R 30 X w.heap.size (fun _ => True) (.slice (some ad2) m2 d2) M2, fun X => k30.R 30 X w.heap.size (fun _ => True) (.slice Q m d) M] ∧ Cur cur m (nextF f f2 t m2 (i + 1))) := ⟨_, (HQ.out.1.setCell (i := 0) rfl (i * 2) (.int .i32 x.f0)).setCell (i := 0) rfl (i * 2 + 1) (.int .u32 x.f1), by
              rw [HK.out]
              have h9 := HQ.out.2.set hlt'.out x
              rw [Nat.mul_comm 2 i] at h9
              exact h9⟩
            clear hbt es H HQ hx hx2 hi2 HK
            go_wp2_with fail
            go_roundw
            case rel => exact ⟨i + 1, by omega, by go_num, H2⟩
            case measure => simp [intOf]; omega
          · have dq2 : decide (i < m2) = false := decide_eq_false hiq
            have hiq' : ¬ (i : Int) < m2 := by omega
            have HK := Aside0.mk (nextF_no (f := f) (f2 := f2) (t := t) (m2 := m2) (i := i) (fun h => hiq h.2))
            have H2 : Aside0 (∃ cur, Hp w.heap.size w wr [(g, .cells cur 30 (0, 0))] [fun X => k30.R 30 X w.heap.size (fun _ => True) (.slice Q2 m2 d2) M2, fun X => k30.R 30 X w.heap.size (fun _ => True) (.slice Q m d) M] ∧ Cur cur m (nextF f f2 t m2 (i + 1))) := ⟨by rw [HK.out]; exact H.out⟩
            clear hbt es H
            go_wp2_with fail
            go_roundw
            case rel => exact ⟨i + 1, by omega, by go_num, H2⟩
            case measure => simp [intOf]; omega
      · obtain ⟨cu, HQ⟩ := H.out
        obtain rfl : m = i := by omega
        have d1 : decide (m < m) = false := decide_eq_false (by omega)
        have HPz := Aside0.mk (HQ.1.freeze (fun X => k30.C X (some ⟨g, 0, none⟩) m (listF (nextF f f2 t m2 m) m)) (fun W' hW' => C_of_cur hW' HQ.2 (by have := H48.out; omega)))
        clear H hi hlt HQ
        obtain ⟨h, hh⟩ : ∃ h, nextF f f2 t m2 m = h := ⟨_, rfl⟩
        rw [hh] at HPz
        have hf0 : ∀ j, ¬ j < m → f j = z30 := fun j hj => by rw [← HF.out]; exact fL_out (by rw [HML.out]; exact hj)
        have hh0 : ∀ j, ¬ j < m → h j = f j := fun j hj => by rw [← hh]; unfold nextF; rw [if_neg (fun q => hj q.1)]
        have hht : ∀ j, j < m → bitT t j = false → h j = f j := fun j hj hb => by rw [← hh]; unfold nextF; rw [if_neg (fun q => by rw [hb] at q; cases q.2.1)]
        have hfO : ∀ j, j < m → OkC (f j) := fun j hj => by
          have hjM : j < M.length := by rw [HML.out]; exact hj
          rw [← HF.out, fL_get hjM]; exact HOK.out _ (List.getElem_mem hjM)
        have hhO : ∀ j, j < m → OkC (h j) := fun j hj => by
          rw [← hh]; unfold nextF
          split
          · rename_i q
            have hjM : j < M2.length := by rw [HML2.out]; exact q.2.2
            rw [← HF2.out, fL_get hjM]; exact HOK2.out _ (List.getElem_mem hjM)
          · exact hfO j hj
        have HH := Aside0.mk (And.intro hf0 (And.intro hh0 (And.intro hht (And.intro hfO hhO))))
        have HE1 := Aside0.mk (fL_listF' h m (fun j hj => by rw [hh0 j hj]; exact hf0 j hj))
        have HCA := Aside0.mk (Ru_C (HPz.out.fact (i := 2) rfl)).2.2
        clear hf0 hh0 hht hfO hhO hh
        go_wp2_with fail
        refine (new_any Q m d M _ HCA.out HMD.out H48.out).mono ?_
        rintro e w5 ⟨rfl, hb5⟩
        have HP5 := Aside0.mk (HPz.out.call hb5)
        rw [HF.out]
        clear hb5 HPz HCA
        have HZ := Aside0.mk (blk_new w5 (.cells (boardC (fun _ => z30) 0) 34))
        have HP6 := Aside0.mk ((HP5.out.alloc (.cells (boardC (fun _ => z30) 0) 34)).setRow (i := 0) rfl (boardC f m))
        clear HP5
        go_wp2_with (first | (refine wpList_store_row rfl 34 (.tmp 15) (.tmp 62) rfl (w5.heap.size) (boardC f m) rfl rfl 34 _ HZ.out (HI _ _).out (by rw [boardC_size, boardC_size]) (HO _ _).out ?_))
        clear HZ
        generalize (w5.alloc (.cells (boardC (fun _ => z30) 0) 34)).setRow w5.heap.size (boardC f m) = w6 at *
        generalize w5.heap.size = ga at *
        have HCB : Aside0 (k30.C w6 (some ⟨g, 0, none⟩) m (listF h m)) := ⟨HP6.out.fact (i := 0) rfl⟩
        refine (new_any (some ⟨g, 0, none⟩) m dm (listF h m) _ HCB.out HDM.out H48.out).mono ?_
        rintro e w7 ⟨rfl, hb7⟩
        have HP7 := Aside0.mk (HP6.out.call hb7)
        rw [HE1.out]
        clear hb7 HP6 HCB
        have HZ := Aside0.mk (blk_new w7 (.cells (boardC (fun _ => z30) 0) 34))
        have HP8 := Aside0.mk ((HP7.out.alloc (.cells (boardC (fun _ => z30) 0) 34)).setRow (i := 0) rfl (boardC h m))
        clear HP7
        go_wp2_with (first | (refine wpList_store_row rfl 34 (.tmp 17) (.tmp 67) rfl (w7.heap.size) (boardC h m) rfl rfl 34 _ HZ.out (HI _ _).out (by rw [boardC_size, boardC_size]) (HO _ _).out ?_))
        clear HZ
        generalize (w7.alloc (.cells (boardC (fun _ => z30) 0) 34)).setRow w7.heap.size (boardC h m) = w8 at *
        generalize w7.heap.size = gb at *
        have hUh : ∀ j, j < m → U32 (h j).f1 := fun j hj => (HH.out.2.2.2.2 j hj).u32
        have hUf : ∀ j, j < m → U32 (f j).f1 := fun j hj => (HH.out.2.2.2.1 j hj).u32
        obtain ⟨Vf, hVf⟩ : ∃ Vf, viewF f m o = Vf := ⟨_, rfl⟩
        obtain ⟨Vh, hVh⟩ : ∃ Vh, viewF h m o = Vh := ⟨_, rfl⟩
        have hUVh : ∀ j, j < m → U32 (Vh j).f1 := fun j hj => by rw [← hVh, view_f1]; exact hUh j hj
        have hUVf : ∀ j, j < m → U32 (Vf j).f1 := fun j hj => by rw [← hVf, view_f1]; exact hUf j hj
        have hap : putsF Vf (plL t m) (clL Vh t m) (plL t m).length = Vh := apply_of (fun j hj hb => by rw [← hVf, ← hVh, view_is _ _ _ _ hj, view_is _ _ _ _ hj, HH.out.2.2.1 j hj hb]) (fun j hj => by rw [← hVf, ← hVh, view_out _ _ _ _ hj, view_out _ _ _ _ hj, HH.out.2.1 j hj])
        have hVz : ∀ j, ¬ j < m → Vh j = z30 := fun j hj => by rw [← hVh, view_out _ _ _ _ hj, HH.out.2.1 j hj]; exact HH.out.1 j hj
        have hfl : fL (listF Vh m) = Vh := fL_listF' Vh m hVz
        have hs2 : sumB true (listF Vh m) < 4294967296 := by unfold sumB sumN; omega
        have KO := Aside0.mk (fun X : World => of_full h m t o tk X H48.out HT.out.1 hUh)
        have KP := Aside0.mk (fun X : World => of_told h m t p tk X H48.out HT.out.1 hUh)
        have KF := Aside0.mk (fun X : World => full_any h m o tk X H48.out hUh)
        rw [hVh] at KO KF
        have KRO := Aside0.mk (fun (A : Option Addr) (c : Nat) (X : World) (hr : k89.C X A m ((listF h m).map toR)) (hc : m ≤ c) => refof_any h m t o tk A c X hr hc H48.out HT.out.1 HH.out.2.2.2.2)
        have KRF := Aside0.mk (fun (A : Option Addr) (c : Nat) (X : World) (hr : k89.C X A m ((listF h m).map toR)) (hc : m ≤ c) => refof_any h m allT o tk A c X hr hc H48.out (by decide) HH.out.2.2.2.2)
        rw [hVh] at KRO KRF
        have KA : Aside0 (∀ (X : World) (v : Value), DvC X tk (sumB true (listF Vh m)) (plL t m) (clL Vh t m) v → Calls Try.prog 19 #[v, .agg (boardC Vf m)] X fun e w' => e = .returned (.tuple #[.agg (boardC Vh m), .int .i64 0]) ∧ Below X.heap.size X w') := ⟨fun X v hv => by
          have h1 := apply_any Vf m tk (sumB true (listF Vh m)) (plL t m) (clL Vh t m) v true X hv H48.out (plcl_len Vh t m) (by have := plL_len t m; have := H48.out; omega) plL_lt hUVf (clL_u32 hUVh) (by rw [hap]; simp)
          rw [hap] at h1
          exact h1⟩
        have KD : Aside0 (∀ (X : World) (v : Value), DvC X tk (sumB true (listF Vh m)) (plL allT m) (clL Vh allT m) v → Calls Try.prog 20 #[v] X fun e w' => e = .returned (.tuple #[.agg (boardC Vh m), .int .i64 0]) ∧ Below X.heap.size X w') := ⟨fun X v hv => by
          have h1 := dboard_any tk (sumB true (listF Vh m)) m (plL allT m) (clL Vh allT m) v true X hv H48.out (plL_all H48.out).1 (by rw [clL_all Vh H48.out, listF_length]) (plL_all H48.out).2 (clL_u32 hUVh) (by rw [clL_all Vh H48.out]; simp)
          rw [clL_all Vh H48.out, hfl] at h1
          exact h1⟩
        have KY := Aside0.mk (fun (X : World) (v : Value) (hv : DvC X tk (sumB true (listF Vh m)) (plL t m) (clL Vh t m) v) => bytes_told tk (sumB true (listF Vh m)) (plL t m) (clL Vh t m) v X hv (right_of Vh t m H48.out) HT.out.2 hs2 (clL_u32 hUVh))
        have KZ := Aside0.mk (fun (X : World) (v : Value) (hv : DvC X tk (sumB true (listF (viewF h m p) m)) (plL t m) (clL (viewF h m p) t m) v) => bytes_told tk (sumB true (listF (viewF h m p) m)) (plL t m) (clL (viewF h m p) t m) v X hv (right_of (viewF h m p) t m H48.out) HT.out.2 (by unfold sumB sumN; omega) (clL_u32 (fun j hj => by rw [view_f1]; exact hUh j hj)))
        have HLY := Aside0.mk (dBytes_len tk (sumB true (listF Vh m)) Vh t m)
        have HLZ := Aside0.mk (dBytes_len tk (sumB true (listF (viewF h m p) m)) (viewF h m p) t m)
        have KW : Aside0 ((∀ X : World, Calls Try.prog 16 #[.agg (boardC f m), .int .i64 o] X fun e w' => e = .returned (.agg (boardC Vf m)) ∧ Below X.heap.size X w') ∧ ∀ X : World, Calls Try.prog 16 #[.agg (boardC h m), .int .i64 o] X fun e w' => e = .returned (.agg (boardC Vh m)) ∧ Below X.heap.size X w') := ⟨fun X => by have := view_any f m o X H48.out; rwa [hVf] at this, fun X => by have := view_any h m o X H48.out; rwa [hVh] at this⟩
        have hcl1 := clL_len Vh t m
        have hcl3 := clL_len Vh allT m
        have HCL : Aside0 ((clL Vh t m).length ≤ 1000000 ∧ (clL Vh allT m).length ≤ 1000000) := ⟨by have := H48.out; omega⟩
        have HSZ := Aside0.mk (fun X : World => size_any h m t X H48.out HT.out.1)
        have hcnt := cntT_le t m
        have HLC : Aside0 (9 + 9 * cntT t m ≤ 1000) := ⟨by have := H48.out; omega⟩
        have hbe := board_eql Vh Vh m m
        rw [sameB_refl] at hbe
        have HBE := Aside0.mk (And.intro hbe board_guard)
        generalize sumB true (listF Vh m) = hs at *
        generalize sumB true (listF (viewF h m p) m) = hsp at *
        generalize clL (viewF h m p) t m = C5 at *
        generalize plL t m = P1 at *
        generalize clL Vh t m = C1 at *
        generalize plL allT m = P3 at *
        generalize clL Vh allT m = C3 at *
        generalize 9 + 9 * cntT t m = bn at *
        have hA : ((allT : Nat) : Int) = 18446744073709551615 := by decide
        rw [hA] at KRF
        clear hUh hUf hVf hVh hUVh hUVf hap hVz hfl hs2 hcl1 hcl3 hcnt hbe hA
        go_wp2_with fail
        refine region_fills (W := w8) [(9, 11, 4), (10, 12, 8)] #[.int .u32 0, .int .u32 0, .slice none 0 0, .slice none 0 0] 41
          [fun _ v => v = .agg (boardC h m),
           fun _ v => v = .int .u64 t,
           fun _ v => v = .int .i64 o,
           fun _ v => v = .int .u32 tk,
           fun (w : World) (v : Value) => OfR w8.heap.size w tk hs P1 C1 v,
           fun _ v => v = .agg (boardC h m),
           fun _ v => v = .int .i64 o,
           fun _ v => v = .int .u32 tk,
           fun (w : World) (v : Value) => OfR w8.heap.size w tk hs P3 C3 v,
           fun _ _ => True,
           fun _ _ => True,
           fun _ _ => True,
           fun _ _ => True]
          (fun j =>  none)
          [(0, some 69), (1, some 70), (2, some 71), (3, some 72), (4, some 73), (5, some 74), (6, some 75), (7, some 76), (8, some 77), (9, some 19), (10, some 20), (11, none), (12, none)]
          []
          (by kernel_rfl) (by kernel_rfl) (by kernel_rfl) (by kernel_rfl) (by kernel_rfl) ?y13_4g ?y13_4s ?y13_4v ?y13_4a ⟨?y13_4o0, ?y13_4o1, ?y13_4o2, ?y13_4o3, ?y13_4o4, ?y13_4o5, ?y13_4o6, ?y13_4o7, ?y13_4o8, ?y13_4o9, ?y13_4o10, ?y13_4o11, ?y13_4o12, trivial⟩ ?y13_4e
        case y13_4g =>
          intro j hj; cases hj
        case y13_4s =>
          refine ⟨(fun F w w' v hf h => h), (fun F w w' v hf h => h), (fun F w w' v hf h => h), (fun F w w' v hf h => h), (fun F w w' v hf h => h.fillsT (by decide) (by decide) hf), (fun F w w' v hf h => h), (fun F w w' v hf h => h), (fun F w w' v hf h => h), (fun F w w' v hf h => h.fillsT (by decide) (by decide) hf), (fun F w w' v hf h => h), (fun F w w' v hf h => h), (fun F w w' v hf h => h), (fun F w w' v hf h => h), trivial⟩
        case y13_4v =>
          intro f hf
          simp only [List.mem_cons, List.not_mem_nil, or_false] at hf
          rcases hf with rfl | rfl
          · exact ⟨fun _ _ => trivial, fun _ _ => trivial⟩
          · exact ⟨fun _ _ => trivial, fun _ _ => trivial⟩
        case y13_4a =>
          intro f hf w v hv
          simp only [List.mem_cons, List.not_mem_nil, or_false] at hf
          rcases hf with rfl | rfl
          · replace hv : (fun (w : World) (v : Value) => OfR w8.heap.size w tk hs P1 C1 v) w v := hv; obtain ⟨A5, c5, A6, c6, q5, _⟩ := hv; exact ⟨_, q5⟩
          · replace hv : (fun (w : World) (v : Value) => OfR w8.heap.size w tk hs P3 C3 v) w v := hv; obtain ⟨A5, c5, A6, c6, q5, _⟩ := hv; exact ⟨_, q5⟩
        case y13_4o0 =>
          intro vs w hb hV
          rw [if_pos (by kernel_rfl)]
          generalize hρ : rho _ _ _ vs = ρ
          have e17 : ρ (.tmp 17) = .pointer (some ⟨gb, 0, none⟩) := by rw [← hρ]; kernel_rfl
          clear hρ hV
          exact runs_load 34 (.tmp 17) rfl gb e17 34 (boardC h m) (0, 0) _ (((hb.block gb (blk_lt (HP8.out.get (i := 0) rfl))).trans (HP8.out.get (i := 0) rfl))) Try.underlying34 rfl (HI _ _).out ⟨Below.refl _ _, rfl⟩
        case y13_4o1 =>
          intro vs w hb hV
          rw [if_pos (by kernel_rfl)]
          generalize hρ : rho _ _ _ vs = ρ
          have e2 : ρ (.tmp 2) = .int .u64 t := by rw [← hρ]; kernel_rfl
          clear hρ hV
          refine runs_val (v := .int .u64 t) (w' := w) ?_ ⟨Below.refl _ _, rfl⟩
          go_simp <;> (first | exact IntWalk.u64_in _ (by omega) | exact IntWalk.u32_in _ (by omega) | exact IntWalk.u16_in _ (by omega) | exact IntWalk.u8_in _ (by omega) | exact IntWalk.i64_in _ (by omega) | skip)
        case y13_4o2 =>
          intro vs w hb hV
          rw [if_pos (by kernel_rfl)]
          generalize hρ : rho _ _ _ vs = ρ
          have e3 : ρ (.tmp 3) = .int .i64 o := by rw [← hρ]; kernel_rfl
          clear hρ hV
          refine runs_val (v := .int .i64 o) (w' := w) ?_ ⟨Below.refl _ _, rfl⟩
          go_simp <;> (first | exact IntWalk.u64_in _ (by omega) | exact IntWalk.u32_in _ (by omega) | exact IntWalk.u16_in _ (by omega) | exact IntWalk.u8_in _ (by omega) | exact IntWalk.i64_in _ (by omega) | skip)
        case y13_4o3 =>
          intro vs w hb hV
          rw [if_pos (by kernel_rfl)]
          generalize hρ : rho _ _ _ vs = ρ
          have e5 : ρ (.tmp 5) = .int .u32 tk := by rw [← hρ]; kernel_rfl
          clear hρ hV
          refine runs_val (v := .int .u32 tk) (w' := w) ?_ ⟨Below.refl _ _, rfl⟩
          go_simp <;> (first | exact IntWalk.u64_in _ (by omega) | exact IntWalk.u32_in _ (by omega) | exact IntWalk.u16_in _ (by omega) | exact IntWalk.u8_in _ (by omega) | exact IntWalk.i64_in _ (by omega) | skip)
        case y13_4o4 =>
          intro vs w hb hV
          rw [if_pos (by kernel_rfl)]
          generalize hρ : rho _ _ _ vs = ρ
          have d69 : (vs 0) = .agg (boardC h m) := hV 0 (by kernel_rfl)
          have e69 : ρ (.tmp 69) = vs 0 := by rw [← hρ]; kernel_rfl
          rw [d69] at e69; clear d69
          have d70 : (vs 1) = .int .u64 t := hV 1 (by kernel_rfl)
          have e70 : ρ (.tmp 70) = vs 1 := by rw [← hρ]; kernel_rfl
          rw [d70] at e70; clear d70
          have d71 : (vs 2) = .int .i64 o := hV 2 (by kernel_rfl)
          have e71 : ρ (.tmp 71) = vs 2 := by rw [← hρ]; kernel_rfl
          rw [d71] at e71; clear d71
          have d72 : (vs 3) = .int .u32 tk := hV 3 (by kernel_rfl)
          have e72 : ρ (.tmp 72) = vs 3 := by rw [← hρ]; kernel_rfl
          rw [d72] at e72; clear d72
          have ef13 : ρ (.func 13) = .func (.func 13) #[] #[] := by rw [← hρ]; rfl
          clear hρ hV
          refine runs_call (f := 13) (args := #[.agg (boardC h m), .int .u64 t, .int .i64 o, .int .u32 tk]) (w' := w) ?_ ?_
          · go_simp
          · refine (KO.out _).mono ?_
            rintro e w5 ⟨v, rfl, hv, hb5⟩
            exact ⟨_, rfl, hb5, hv.lower hb.size⟩
        case y13_4o5 =>
          intro vs w hb hV
          rw [if_pos (by kernel_rfl)]
          generalize hρ : rho _ _ _ vs = ρ
          have e17 : ρ (.tmp 17) = .pointer (some ⟨gb, 0, none⟩) := by rw [← hρ]; kernel_rfl
          clear hρ hV
          exact runs_load 34 (.tmp 17) rfl gb e17 34 (boardC h m) (0, 0) _ (((hb.block gb (blk_lt (HP8.out.get (i := 0) rfl))).trans (HP8.out.get (i := 0) rfl))) Try.underlying34 rfl (HI _ _).out ⟨Below.refl _ _, rfl⟩
        case y13_4o6 =>
          intro vs w hb hV
          rw [if_pos (by kernel_rfl)]
          generalize hρ : rho _ _ _ vs = ρ
          have e3 : ρ (.tmp 3) = .int .i64 o := by rw [← hρ]; kernel_rfl
          clear hρ hV
          refine runs_val (v := .int .i64 o) (w' := w) ?_ ⟨Below.refl _ _, rfl⟩
          go_simp <;> (first | exact IntWalk.u64_in _ (by omega) | exact IntWalk.u32_in _ (by omega) | exact IntWalk.u16_in _ (by omega) | exact IntWalk.u8_in _ (by omega) | exact IntWalk.i64_in _ (by omega) | skip)
        case y13_4o7 =>
          intro vs w hb hV
          rw [if_pos (by kernel_rfl)]
          generalize hρ : rho _ _ _ vs = ρ
          have e5 : ρ (.tmp 5) = .int .u32 tk := by rw [← hρ]; kernel_rfl
          clear hρ hV
          refine runs_val (v := .int .u32 tk) (w' := w) ?_ ⟨Below.refl _ _, rfl⟩
          go_simp <;> (first | exact IntWalk.u64_in _ (by omega) | exact IntWalk.u32_in _ (by omega) | exact IntWalk.u16_in _ (by omega) | exact IntWalk.u8_in _ (by omega) | exact IntWalk.i64_in _ (by omega) | skip)
        case y13_4o8 =>
          intro vs w hb hV
          rw [if_pos (by kernel_rfl)]
          generalize hρ : rho _ _ _ vs = ρ
          have d74 : (vs 5) = .agg (boardC h m) := hV 5 (by kernel_rfl)
          have e74 : ρ (.tmp 74) = vs 5 := by rw [← hρ]; kernel_rfl
          rw [d74] at e74; clear d74
          have d75 : (vs 6) = .int .i64 o := hV 6 (by kernel_rfl)
          have e75 : ρ (.tmp 75) = vs 6 := by rw [← hρ]; kernel_rfl
          rw [d75] at e75; clear d75
          have d76 : (vs 7) = .int .u32 tk := hV 7 (by kernel_rfl)
          have e76 : ρ (.tmp 76) = vs 7 := by rw [← hρ]; kernel_rfl
          rw [d76] at e76; clear d76
          have ef15 : ρ (.func 15) = .func (.func 15) #[] #[] := by rw [← hρ]; rfl
          clear hρ hV
          refine runs_call (f := 15) (args := #[.agg (boardC h m), .int .i64 o, .int .u32 tk]) (w' := w) ?_ ?_
          · go_simp
          · refine (KF.out _).mono ?_
            rintro e w5 ⟨v, rfl, hv, hb5⟩
            exact ⟨_, rfl, hb5, hv.lower hb.size⟩
        case y13_4o9 =>
          intro vs w
          generalize hρ : rho _ _ _ vs = ρ
          clear hρ
          refine runs_val (v := .pointer (some ⟨w.heap.size, 0, none⟩)) (w' := w.alloc (.cells #[.int .u32 0, .int .u32 0, .slice none 0 0, .slice none 0 0] 41)) ?_ ⟨rfl, rfl⟩
          go_simp
        case y13_4o10 =>
          intro vs w
          generalize hρ : rho _ _ _ vs = ρ
          clear hρ
          refine runs_val (v := .pointer (some ⟨w.heap.size, 0, none⟩)) (w' := w.alloc (.cells #[.int .u32 0, .int .u32 0, .slice none 0 0, .slice none 0 0] 41)) ?_ ⟨rfl, rfl⟩
          go_simp
        case y13_4o11 =>
          intro vs w g cur cs hb hV hg0 hcs hcur hcsz
          replace hg0 : vs 9 = .pointer (some ⟨g, 0, none⟩) := hg0
          replace hcs : vs 4 = .agg cs := hcs
          generalize hρ : rho _ _ _ vs = ρ
          have d19 : (fun (w : World) (v : Value) => True) w (vs 9) := hV 9 (by kernel_rfl)
          have e19 : ρ (.tmp 19) = vs 9 := by rw [← hρ]; kernel_rfl
          have d73 : (fun (w : World) (v : Value) => OfR w8.heap.size w tk hs P1 C1 v) w (vs 4) := hV 4 (by kernel_rfl)
          have e73 : ρ (.tmp 73) = vs 4 := by rw [← hρ]; kernel_rfl
          clear hρ hV
          rw [hg0] at e19
          rw [hcs] at e73
          obtain ⟨A5, c5, A6, c6, q5, _⟩ := d73; rw [hcs] at q5; injection q5 with q5; subst q5; exact runs_store_row 41 (.tmp 19) (.tmp 73) rfl g _ e19 e73 41 cur hcur (delta_info _ _ _ _) hcsz (by simp [Value.oneCell']) rfl
        case y13_4o12 =>
          intro vs w g cur cs hb hV hg0 hcs hcur hcsz
          replace hg0 : vs 10 = .pointer (some ⟨g, 0, none⟩) := hg0
          replace hcs : vs 8 = .agg cs := hcs
          generalize hρ : rho _ _ _ vs = ρ
          have d20 : (fun (w : World) (v : Value) => True) w (vs 10) := hV 10 (by kernel_rfl)
          have e20 : ρ (.tmp 20) = vs 10 := by rw [← hρ]; kernel_rfl
          have d77 : (fun (w : World) (v : Value) => OfR w8.heap.size w tk hs P3 C3 v) w (vs 8) := hV 8 (by kernel_rfl)
          have e77 : ρ (.tmp 77) = vs 8 := by rw [← hρ]; kernel_rfl
          clear hρ hV
          rw [hg0] at e20
          rw [hcs] at e77
          obtain ⟨A5, c5, A6, c6, q5, _⟩ := d77; rw [hcs] at q5; injection q5 with q5; subst q5; exact runs_store_row 41 (.tmp 20) (.tmp 77) rfl g _ e20 e77 41 cur hcur (delta_info _ _ _ _) hcsz (by simp [Value.oneCell']) rfl
        case y13_4e =>
          intro vs w9 hb9 hV hFill hNe
          obtain ⟨g19, cs19, hgP19, hgB19, hgV19, hgF19⟩ := hFill (9, 11, 4) (by simp)
          replace hgP19 : vs 9 = .pointer (some ⟨g19, 0, none⟩) := hgP19
          replace hgV19 : vs 4 = .agg cs19 := hgV19
          obtain ⟨g20, cs20, hgP20, hgB20, hgV20, hgF20⟩ := hFill (10, 12, 8) (by simp)
          replace hgP20 : vs 10 = .pointer (some ⟨g20, 0, none⟩) := hgP20
          replace hgV20 : vs 8 = .agg cs20 := hgV20
          have hne19_20 : g19 ≠ g20 := fun e => hNe (9, 11, 4) (by simp) (10, 12, 8) (by simp) (by decide) (show vs 9 = vs 10 by rw [hgP19, hgP20, e])
          have d69 : (vs 0) = .agg (boardC h m) := hV 0 (Nat.le_of_ble_eq_true rfl)
          have d70 : (vs 1) = .int .u64 t := hV 1 (Nat.le_of_ble_eq_true rfl)
          have d71 : (vs 2) = .int .i64 o := hV 2 (Nat.le_of_ble_eq_true rfl)
          have d72 : (vs 3) = .int .u32 tk := hV 3 (Nat.le_of_ble_eq_true rfl)
          have d73 : (fun (w : World) (v : Value) => OfR w8.heap.size w tk hs P1 C1 v) w9 (vs 4) := hV 4 (Nat.le_of_ble_eq_true rfl)
          have d74 : (vs 5) = .agg (boardC h m) := hV 5 (Nat.le_of_ble_eq_true rfl)
          have d75 : (vs 6) = .int .i64 o := hV 6 (Nat.le_of_ble_eq_true rfl)
          have d76 : (vs 7) = .int .u32 tk := hV 7 (Nat.le_of_ble_eq_true rfl)
          have d77 : (fun (w : World) (v : Value) => OfR w8.heap.size w tk hs P3 C3 v) w9 (vs 8) := hV 8 (Nat.le_of_ble_eq_true rfl)
          clear hV hFill hNe
          simp only [putAll]
          rw [hgV19] at d73
          rw [hgV20] at d77
          rw [d69, d70, d71, d72, d74, d75, d76, hgP19, hgP20, hgV19, hgV20]
          clear d69 d70 d71 d72 d74 d75 d76 hgP19 hgP20 hgV19 hgV20
          generalize vs 11 = vN11
          generalize vs 12 = vN12
          clear vs
          simp only [Act.put, List.setIfInBounds_toArray, List.set_cons_zero, List.set_cons_succ]
          obtain ⟨A5, c5, A6, c6, q5, r5⟩ := d73
          injection q5 with q5
          subst q5
          obtain ⟨A7, c7, A8, c8, q7, r7⟩ := d77
          injection q7 with q7
          subst q7
          have HP9 := Aside0.mk (HP8.out.found2 hb9 hgB19 hgF19 hgB20 hgF20 hne19_20)
          have HP10 := Aside0.mk ((HP9.out.addR (tk := tk) (hs := hs) (P := P1) (C := C1) ⟨A5, c5, A6, c6, rfl, r5⟩ HP8.out.le (by intro p hp; simp only [List.set_cons_zero, List.set_cons_succ, List.mem_cons, List.not_mem_nil, or_false] at hp; rcases hp with rfl | rfl | rfl | rfl <;> exact ⟨_, _, rfl, by decide, by decide⟩)).addR (tk := tk) (hs := hs) (P := P3) (C := C3) ⟨A7, c7, A8, c8, rfl, r7⟩ HP8.out.le (by intro p hp; simp only [List.set_cons_zero, List.set_cons_succ, List.mem_cons, List.not_mem_nil, or_false] at hp; rcases hp with rfl | rfl | rfl | rfl <;> exact ⟨_, _, rfl, by decide, by decide⟩))
          generalize hn1 : P1.length = n1 at *
          generalize hn2 : C1.length = n2 at *
          generalize hn3 : P3.length = n3 at *
          generalize hn4 : C3.length = n4 at *
          have HN24 := Aside0.mk (And.intro hn2 hn4)
          clear hb9 hgB19 hgF19 hgB20 hgF20 hne19_20 r5 r7 HP9 HP8 hn1 hn2 hn3 hn4
          have K1 := Aside0.mk (own7_any tk hs P1 C1 (.agg #[.int .u32 tk, .int .u32 hs, .slice A5 n1 c5, .slice A6 n2 c6]) w9 (HP10.out.fact (i := 1) rfl).cells (by rw [HN24.out.1]; exact HCL.out.1))
          go_wp2_with (first | (refine wpList_load_row_g 41 (.tmp 19) rfl (g19) rfl rfl 41 _ (0, 0) _ (HP10.out.get (i := 0) rfl) Try.underlying41 rfl (delta_info _ _ _ _) ?_))
          refine K1.out.mono ?_
          rintro e x1 ⟨u1, rfl, k1, hbz⟩
          have HP11 := Aside0.mk (HP10.out.call hbz)
          have D1 := Aside0.mk k1
          clear hbz HP10 K1 k1
          go_wp2_with fail
          refine (cells7_any (some ⟨g, 0, none⟩) m dm (listF h m) _ (HP11.out.fact (i := 2) rfl) HDM.out (by have := H48.out; omega)).mono ?_
          rintro e x2 ⟨u2, rfl, k2, hbz⟩
          obtain ⟨qu2, du2, rfl, hdu2, k3⟩ := Kd.R_reads k2
          rw [List.length_map, listF_length] at hdu2 k3
          rw [List.length_map, listF_length]
          have HP12 := Aside0.mk (HP11.out.call hbz)
          have HDu2 := Aside0.mk hdu2
          have KCu2 := Aside0.mk k3
          have D1' := Aside0.mk (D1.out.below hbz)
          clear hbz HP11 k2 k3 hdu2 D1
          go_wp2_with fail
          refine (KRO.out qu2 du2 _ KCu2.out HDu2.out).mono ?_
          rintro e x3 ⟨u3, rfl, k3, hbz⟩
          have HP13 := Aside0.mk (HP12.out.call hbz)
          have K1 := Aside0.mk (rsame7_any tk hs P1 (C1.map toR) u1 u3 x3 (D1'.out.below hbz) k3 (by rw [List.length_map, HN24.out.1]; exact HCL.out.1))
          clear hbz HP12 D1' k3 KCu2 HDu2
          go_wp2_with fail
          refine K1.out.mono ?_
          rintro e x4 ⟨rfl, hbz⟩
          have HP14 := Aside0.mk (HP13.out.call hbz)
          clear hbz HP13 K1
          have K1 := Aside0.mk (own7_any tk hs P3 C3 (.agg #[.int .u32 tk, .int .u32 hs, .slice A7 n3 c7, .slice A8 n4 c8]) x4 (HP14.out.fact (i := 0) rfl).cells (by rw [HN24.out.2]; exact HCL.out.2))
          go_wp2_with (first | (refine wpList_load_row_g 41 (.tmp 20) rfl (g20) rfl rfl 41 _ (0, 0) _ (HP14.out.get (i := 1) rfl) Try.underlying41 rfl (delta_info _ _ _ _) ?_))
          refine K1.out.mono ?_
          rintro e x5 ⟨u5, rfl, k5, hbz⟩
          have HP15 := Aside0.mk (HP14.out.call hbz)
          have D2 := Aside0.mk k5
          clear hbz HP14 K1 k5
          go_wp2_with fail
          refine (cells7_any (some ⟨g, 0, none⟩) m dm (listF h m) _ (HP15.out.fact (i := 2) rfl) HDM.out (by have := H48.out; omega)).mono ?_
          rintro e x6 ⟨u6, rfl, k2, hbz⟩
          obtain ⟨qu6, du6, rfl, hdu6, k3⟩ := Kd.R_reads k2
          rw [List.length_map, listF_length] at hdu6 k3
          rw [List.length_map, listF_length]
          have HP16 := Aside0.mk (HP15.out.call hbz)
          have HDu6 := Aside0.mk hdu6
          have KCu6 := Aside0.mk k3
          have D2' := Aside0.mk (D2.out.below hbz)
          clear hbz HP15 k2 k3 hdu6 D2
          go_wp2_with fail
          refine (KRF.out qu6 du6 _ KCu6.out HDu6.out).mono ?_
          rintro e x7 ⟨u7, rfl, k7, hbz⟩
          have HP17 := Aside0.mk (HP16.out.call hbz)
          have K1 := Aside0.mk (rsame7_any tk hs P3 (C3.map toR) u5 u7 x7 (D2'.out.below hbz) k7 (by rw [List.length_map, HN24.out.2]; exact HCL.out.2))
          clear hbz HP16 D2' k7 KCu6 HDu6
          go_wp2_with fail
          refine K1.out.mono ?_
          rintro e x8 ⟨rfl, hbz⟩
          have HP18 := Aside0.mk (HP17.out.call hbz)
          clear hbz HP17 K1
          go_wp2_with fail
          refine region_fill (W := x8) 8 9 (boardC (fun _ => z30) 0) (boardC Vh m) 34
            [fun (w : World) (v : Value) => v = .agg #[.int .u32 tk, .int .u32 hs, .slice A5 n1 c5, .slice A6 n2 c6],
             fun (w : World) (v : Value) => v = .agg (boardC f m),
             fun (w : World) (v : Value) => v = .int .i64 o,
             fun (w : World) (v : Value) => v = .agg (boardC Vf m),
             fun (w : World) (v : Value) => v = .tuple #[.agg (boardC Vh m), .int .i64 0],
             fun (w : World) (v : Value) => v = .tuple #[.agg (boardC Vh m), .int .i64 0],
             fun (w : World) (v : Value) => v = .agg (boardC Vh m),
             fun (w : World) (v : Value) => v = .int .i64 0,
             fun (w : World) (v : Value) => Made x8.heap.size (.cells (boardC (fun _ => z30) 0) 34 (0, 0)) (.cells (boardC Vh m) 34 (0, 0)) w v,
             fun (w : World) (v : Value) => True,
             fun (w : World) (v : Value) => v = .int .i64 0]
            (fun j =>  none)
            [(0, some 100), (1, some 101), (2, some 102), (3, some 103), (4, some 104), (5, some 99), (6, some 105), (7, some 106), (8, some 21), (9, none), (10, some 22)]
            []
            (by kernel_rfl) (by kernel_rfl) (by kernel_rfl) (by kernel_rfl) (by kernel_rfl) ?r16_5z rfl rfl ?r16_5g ?r16_5s ⟨?r16_5o0, ?r16_5o1, ?r16_5o2, ?r16_5o3, ?r16_5o4, ?r16_5o5, ?r16_5o6, ?r16_5o7, ?r16_5o8, ?r16_5o9, ?r16_5o10, trivial⟩ ?r16_5e
          case r16_5z => first | (rw [boardC_size, boardC_size]) | rfl
          case r16_5g =>
            intro j hj; cases hj
          case r16_5s =>
            refine ⟨(fun w w' v hb h => h), (fun w w' v hb h => h), (fun w w' v hb h => h), (fun w w' v hb h => h), (fun w w' v hb h => h), (fun w w' v hb h => h), (fun w w' v hb h => h), (fun w w' v hb h => h), (fun w w' v hb h => Made.stab w w' v hb h), (fun w w' v hb h => trivial), (fun w w' v hb h => h), trivial⟩
          case r16_5o0 =>
            intro vs w hb hV
            rw [if_neg (by decide)]
            rw [if_pos (by kernel_rfl)]
            generalize hρ : rho _ _ _ vs = ρ
            have e19 : ρ (.tmp 19) = .pointer (some ⟨g19, 0, none⟩) := by rw [← hρ]; kernel_rfl
            clear hρ hV
            exact runs_load 41 (.tmp 19) rfl g19 e19 41 #[.int .u32 tk, .int .u32 hs, .slice A5 n1 c5, .slice A6 n2 c6] (0, 0) _ (((hb.block g19 (blk_lt (HP18.out.get (i := 0) rfl))).trans (HP18.out.get (i := 0) rfl))) Try.underlying41 rfl (delta_info _ _ _ _) ⟨Below.refl _ _, rfl⟩
          case r16_5o1 =>
            intro vs w hb hV
            rw [if_neg (by decide)]
            rw [if_pos (by kernel_rfl)]
            generalize hρ : rho _ _ _ vs = ρ
            have e15 : ρ (.tmp 15) = .pointer (some ⟨ga, 0, none⟩) := by rw [← hρ]; kernel_rfl
            clear hρ hV
            exact runs_load 34 (.tmp 15) rfl ga e15 34 (boardC f m) (0, 0) _ (((hb.block ga (blk_lt (HP18.out.get (i := 3) rfl))).trans (HP18.out.get (i := 3) rfl))) Try.underlying34 rfl (HI _ _).out ⟨Below.refl _ _, rfl⟩
          case r16_5o2 =>
            intro vs w hb hV
            rw [if_neg (by decide)]
            rw [if_pos (by kernel_rfl)]
            generalize hρ : rho _ _ _ vs = ρ
            have e3 : ρ (.tmp 3) = .int .i64 o := by rw [← hρ]; kernel_rfl
            clear hρ hV
            refine runs_val (v := .int .i64 o) (w' := w) ?_ ⟨Below.refl _ _, rfl⟩
            go_simp <;> (first | exact IntWalk.u64_in _ (by omega) | exact IntWalk.u32_in _ (by omega) | exact IntWalk.u16_in _ (by omega) | exact IntWalk.u8_in _ (by omega) | exact IntWalk.i64_in _ (by omega) | skip)
          case r16_5o3 =>
            intro vs w hb hV
            rw [if_neg (by decide)]
            rw [if_pos (by kernel_rfl)]
            generalize hρ : rho _ _ _ vs = ρ
            have d101 : (vs 1) = .agg (boardC f m) := hV 1 (by kernel_rfl)
            have e101 : ρ (.tmp 101) = vs 1 := by rw [← hρ]; kernel_rfl
            rw [d101] at e101; clear d101
            have d102 : (vs 2) = .int .i64 o := hV 2 (by kernel_rfl)
            have e102 : ρ (.tmp 102) = vs 2 := by rw [← hρ]; kernel_rfl
            rw [d102] at e102; clear d102
            have ef16 : ρ (.func 16) = .func (.func 16) #[] #[] := by rw [← hρ]; rfl
            clear hρ hV
            refine runs_call (f := 16) (args := #[.agg (boardC f m), .int .i64 o]) (w' := w) ?_ ?_
            · go_simp
            · refine (KW.out.1 _).mono ?_
              rintro e w5 ⟨rfl, hb5⟩
              exact ⟨_, rfl, hb5, rfl⟩
          case r16_5o4 =>
            intro vs w hb hV
            rw [if_neg (by decide)]
            rw [if_pos (by kernel_rfl)]
            generalize hρ : rho _ _ _ vs = ρ
            have d100 : (vs 0) = .agg #[.int .u32 tk, .int .u32 hs, .slice A5 n1 c5, .slice A6 n2 c6] := hV 0 (by kernel_rfl)
            have e100 : ρ (.tmp 100) = vs 0 := by rw [← hρ]; kernel_rfl
            rw [d100] at e100; clear d100
            have d103 : (vs 3) = .agg (boardC Vf m) := hV 3 (by kernel_rfl)
            have e103 : ρ (.tmp 103) = vs 3 := by rw [← hρ]; kernel_rfl
            rw [d103] at e103; clear d103
            have ef19 : ρ (.func 19) = .func (.func 19) #[] #[] := by rw [← hρ]; rfl
            clear hρ hV
            refine runs_call (f := 19) (args := #[.agg #[.int .u32 tk, .int .u32 hs, .slice A5 n1 c5, .slice A6 n2 c6], .agg (boardC Vf m)]) (w' := w) ?_ ?_
            · go_simp
            · have hq1 := ((HP18.out.call hb).fact (i := 1) rfl).cells
              refine (KA.out w _ hq1).mono ?_
              rintro e w5 ⟨rfl, hb5⟩
              exact ⟨_, rfl, hb5, rfl⟩
          case r16_5o5 =>
            intro vs w hb hV
            rw [if_neg (by decide)]
            rw [if_pos (by kernel_rfl)]
            generalize hρ : rho _ _ _ vs = ρ
            have d104 : (vs 4) = .tuple #[.agg (boardC Vh m), .int .i64 0] := hV 4 (by kernel_rfl)
            have e104 : ρ (.tmp 104) = vs 4 := by rw [← hρ]; kernel_rfl
            clear hρ hV
            refine runs_val (v := vs 4) (w' := w) ?_ ⟨Below.refl _ _, d104⟩
            go_simp
          case r16_5o6 =>
            intro vs w hb hV
            rw [if_neg (by decide)]
            rw [if_pos (by kernel_rfl)]
            generalize hρ : rho _ _ _ vs = ρ
            have d99 : (vs 5) = .tuple #[.agg (boardC Vh m), .int .i64 0] := hV 5 (by kernel_rfl)
            have e99 : ρ (.tmp 99) = vs 5 := by rw [← hρ]; kernel_rfl
            rw [d99] at e99; clear d99
            clear hρ hV
            refine runs_val (v := .agg (boardC Vh m)) (w' := w) ?_ ⟨Below.refl _ _, rfl⟩
            go_simp <;> (first | exact IntWalk.u64_in _ (by omega) | exact IntWalk.u32_in _ (by omega) | exact IntWalk.u16_in _ (by omega) | exact IntWalk.u8_in _ (by omega) | exact IntWalk.i64_in _ (by omega) | skip)
          case r16_5o7 =>
            intro vs w hb hV
            rw [if_neg (by decide)]
            rw [if_pos (by kernel_rfl)]
            generalize hρ : rho _ _ _ vs = ρ
            have d99 : (vs 5) = .tuple #[.agg (boardC Vh m), .int .i64 0] := hV 5 (by kernel_rfl)
            have e99 : ρ (.tmp 99) = vs 5 := by rw [← hρ]; kernel_rfl
            rw [d99] at e99; clear d99
            clear hρ hV
            refine runs_val (v := .int .i64 0) (w' := w) ?_ ⟨Below.refl _ _, rfl⟩
            go_simp <;> (first | exact IntWalk.u64_in _ (by omega) | exact IntWalk.u32_in _ (by omega) | exact IntWalk.u16_in _ (by omega) | exact IntWalk.u8_in _ (by omega) | exact IntWalk.i64_in _ (by omega) | skip)
          case r16_5o8 =>
            intro vs w hb hV
            rw [if_neg (by decide)]
            rw [if_pos (by kernel_rfl)]
            generalize hρ : rho _ _ _ vs = ρ
            clear hρ hV
            refine runs_val (v := .pointer (some ⟨w.heap.size, 0, none⟩)) (w' := w.alloc (.cells (boardC (fun _ => z30) 0) 34)) ?_ ⟨below_alloc (Below.refl _ _) _, w.heap.size, rfl, hb.size, .inl (blk_new _ _)⟩
            go_simp
          case r16_5o9 =>
            intro vs w hb hV
            rw [if_pos rfl]
            intro g cur hg0 hcur hcsz
            generalize hρ : rho _ _ _ vs = ρ
            have d21 : (fun (w : World) (v : Value) => Made x8.heap.size (.cells (boardC (fun _ => z30) 0) 34 (0, 0)) (.cells (boardC Vh m) 34 (0, 0)) w v) w (vs 8) := hV 8 (by kernel_rfl)
            have e21 : ρ (.tmp 21) = vs 8 := by rw [← hρ]; kernel_rfl
            rw [hg0] at e21; clear d21
            have d105 : (vs 6) = .agg (boardC Vh m) := hV 6 (by kernel_rfl)
            have e105 : ρ (.tmp 105) = vs 6 := by rw [← hρ]; kernel_rfl
            rw [d105] at e105; clear d105
            clear hρ hV
            exact runs_store_row 34 (.tmp 21) (.tmp 105) rfl g _ e21 e105 34 cur hcur (HI _ _).out hcsz (HO _ _).out rfl
          case r16_5o10 =>
            intro vs w hb hV
            rw [if_neg (by decide)]
            rw [if_pos (by kernel_rfl)]
            generalize hρ : rho _ _ _ vs = ρ
            have d106 : (vs 7) = .int .i64 0 := hV 7 (by kernel_rfl)
            have e106 : ρ (.tmp 106) = vs 7 := by rw [← hρ]; kernel_rfl
            clear hρ hV
            refine runs_val (v := vs 7) (w' := w) ?_ ⟨Below.refl _ _, d106⟩
            go_simp
          case r16_5e =>
            intro vs x9 g21 hb9 hV hgP hgB21 hgF21
            have d100 : (vs 0) = .agg #[.int .u32 tk, .int .u32 hs, .slice A5 n1 c5, .slice A6 n2 c6] := hV 0 (Nat.le_of_ble_eq_true rfl)
            have d101 : (vs 1) = .agg (boardC f m) := hV 1 (Nat.le_of_ble_eq_true rfl)
            have d102 : (vs 2) = .int .i64 o := hV 2 (Nat.le_of_ble_eq_true rfl)
            have d103 : (vs 3) = .agg (boardC Vf m) := hV 3 (Nat.le_of_ble_eq_true rfl)
            have d104 : (vs 4) = .tuple #[.agg (boardC Vh m), .int .i64 0] := hV 4 (Nat.le_of_ble_eq_true rfl)
            have d99 : (vs 5) = .tuple #[.agg (boardC Vh m), .int .i64 0] := hV 5 (Nat.le_of_ble_eq_true rfl)
            have d105 : (vs 6) = .agg (boardC Vh m) := hV 6 (Nat.le_of_ble_eq_true rfl)
            have d106 : (vs 7) = .int .i64 0 := hV 7 (Nat.le_of_ble_eq_true rfl)
            have d21 : vs 8 = .pointer (some ⟨g21, 0, none⟩) := hgP; clear hgP
            have d22 : (vs 10) = .int .i64 0 := hV 10 (Nat.le_of_ble_eq_true rfl)
            clear hV
            simp only [putAll]
            rw [d100, d101, d102, d103, d104, d99, d105, d106, d21, d22]
            clear d100 d101 d102 d103 d104 d99 d105 d106 d21 d22
            generalize vs 9 = vN9
            clear vs
            simp only [Act.put, List.setIfInBounds_toArray, List.set_cons_zero, List.set_cons_succ]
            have HP19 := Aside0.mk (HP18.out.found hb9 hgB21 hgF21)
            have KD2 := Aside0.mk (KD.out _ _ (HP19.out.fact (i := 0) rfl).cells)
            clear hb9 hgB21 hgF21 HP18
            go_wp2_with (first | (refine wpList_load_row_g 41 (.tmp 20) rfl (g20) rfl rfl 41 _ (0, 0) _ (HP19.out.get (i := 2) rfl) Try.underlying41 rfl (delta_info _ _ _ _) ?_))
            refine KD2.out.mono ?_
            rintro e x10 ⟨rfl, hbz⟩
            have HP20 := Aside0.mk (HP19.out.call hbz)
            clear hbz HP19 KD2
            have HZ := Aside0.mk (blk_new x10 (.cells (boardC (fun _ => z30) 0) 34))
            have HP21 := Aside0.mk ((HP20.out.alloc (.cells (boardC (fun _ => z30) 0) 34)).setRow (i := 0) rfl (boardC Vh m))
            clear HP20
            go_wp2_with (first | (refine wpList_store_row rfl 34 (.tmp 23) (.tmp 110) rfl (x10.heap.size) (boardC Vh m) rfl rfl 34 _ HZ.out (HI _ _).out (by rw [boardC_size, boardC_size]) (HO _ _).out ?_) | (refine wpList_load_row_g 41 (.tmp 19) rfl (g19) rfl rfl 41 _ (0, 0) _ (HP21.out.get (i := 2) rfl) Try.underlying41 rfl (delta_info _ _ _ _) ?_))
            have K2 := Aside0.mk (KY.out _ _ (HP21.out.fact (i := 1) rfl).cells)
            clear HZ
            generalize (x10.alloc (.cells (boardC (fun _ => z30) 0) 34)).setRow x10.heap.size (boardC Vh m) = x11 at *
            generalize x10.heap.size = g23 at *
            refine K2.out.mono ?_
            rintro e x12 ⟨u9, rfl, k9, hbz⟩
            obtain ⟨A9, c9, rfl, _, _⟩ := k9
            rw [HLY.out]
            have HP22 := Aside0.mk (HP21.out.call hbz)
            clear hbz HP21 K2
            go_wp2_with fail
            refine region_grown (W := x12)
              [fun (w : World) (v : Value) => v = .int .i64 0,
               fun (w : World) (v : Value) => v = .bool true,
               fun (w : World) (v : Value) => v = .bool true,
               fun (w : World) (v : Value) => v = .agg (boardC Vh m),
               fun (w : World) (v : Value) => v = .agg (boardC h m),
               fun (w : World) (v : Value) => v = .int .i64 o,
               fun (w : World) (v : Value) => v = .agg (boardC Vh m),
               fun (w : World) (v : Value) => v = .bool true,
               fun (w : World) (v : Value) => v = .bool true,
               fun (w : World) (v : Value) => v = .bool true,
               fun (w : World) (v : Value) => v = .int .i64 0,
               fun (w : World) (v : Value) => v = .bool true,
               fun (w : World) (v : Value) => v = .bool true,
               fun (w : World) (v : Value) => v = .bool true,
               fun (w : World) (v : Value) => v = .agg (boardC Vh m),
               fun (w : World) (v : Value) => v = .agg (boardC h m),
               fun (w : World) (v : Value) => v = .int .i64 o,
               fun (w : World) (v : Value) => v = .agg (boardC Vh m),
               fun (w : World) (v : Value) => v = .bool true,
               fun (w : World) (v : Value) => v = .bool true,
               fun (w : World) (v : Value) => v = .bool true,
               fun (w : World) (v : Value) => v = .int .i64 bn,
               fun (w : World) (v : Value) => v = .int .u64 t,
               fun (w : World) (v : Value) => v = .agg (boardC h m),
               fun (w : World) (v : Value) => v = .int .i64 bn,
               fun (w : World) (v : Value) => v = .bool true,
               fun (w : World) (v : Value) => v = .bool true,
               fun (w : World) (v : Value) => v = .bool true,
               fun (w : World) (v : Value) => v = .int .i64 bn,
               fun (w : World) (v : Value) => v = .agg (boardC h m),
               fun (w : World) (v : Value) => v = .int .u64 t,
               fun (w : World) (v : Value) => v = .int .i64 p,
               fun (w : World) (v : Value) => v = .int .u32 tk,
               fun (w : World) (v : Value) => DvC w tk hsp P1 C5 v,
               fun (w : World) (v : Value) => BvC w (dBytes tk hsp P1 C5) v,
               fun (w : World) (v : Value) => v = .int .i64 bn,
               fun (w : World) (v : Value) => v = .bool true,
               fun (w : World) (v : Value) => v = .bool true,
               fun (w : World) (v : Value) => v = .bool true]
              (fun j => if j = 2 then some true else if j = 9 then some true else if j = 13 then some true else if j = 20 then some true else if j = 27 then some true else none)
              [(0, some 115), (1, some 116), (2, some 117), (3, some 118), (4, some 119), (5, some 120), (6, some 121), (7, some 122), (8, some 123), (9, some 124), (10, some 125), (11, some 126), (12, some 127), (13, some 128), (14, some 129), (15, some 130), (16, some 131), (17, some 132), (18, some 133), (19, some 134), (20, some 135), (21, some 136), (22, some 137), (23, some 138), (24, some 139), (25, some 140), (26, some 141), (27, some 142), (28, some 143), (29, some 144), (30, some 145), (31, some 146), (32, some 147), (33, some 148), (34, some 149), (35, some 150), (36, some 151), (37, some 152), (38, some 12)]
              [2, 9, 13, 20, 27]
              (by kernel_rfl) (by kernel_rfl) (by kernel_rfl) (by kernel_rfl) ?r19_6g ?r19_6s ⟨?r19_6o0, ?r19_6o1, ?r19_6o2, ?r19_6o3, ?r19_6o4, ?r19_6o5, ?r19_6o6, ?r19_6o7, ?r19_6o8, ?r19_6o9, ?r19_6o10, ?r19_6o11, ?r19_6o12, ?r19_6o13, ?r19_6o14, ?r19_6o15, ?r19_6o16, ?r19_6o17, ?r19_6o18, ?r19_6o19, ?r19_6o20, ?r19_6o21, ?r19_6o22, ?r19_6o23, ?r19_6o24, ?r19_6o25, ?r19_6o26, ?r19_6o27, ?r19_6o28, ?r19_6o29, ?r19_6o30, ?r19_6o31, ?r19_6o32, ?r19_6o33, ?r19_6o34, ?r19_6o35, ?r19_6o36, ?r19_6o37, ?r19_6o38, trivial⟩ ?r19_6e
            case r19_6g =>
              intro j hj w v hv
              simp only [List.mem_cons, List.not_mem_nil, or_false] at hj
              rcases hj with rfl | rfl | rfl | rfl | rfl
              · have hv' : v = .bool true := hv; rw [hv']; rfl
              · have hv' : v = .bool true := hv; rw [hv']; rfl
              · have hv' : v = .bool true := hv; rw [hv']; rfl
              · have hv' : v = .bool true := hv; rw [hv']; rfl
              · have hv' : v = .bool true := hv; rw [hv']; rfl
            case r19_6s =>
              refine ⟨(fun w w' v hb h => h), (fun w w' v hb h => h), (fun w w' v hb h => h), (fun w w' v hb h => h), (fun w w' v hb h => h), (fun w w' v hb h => h), (fun w w' v hb h => h), (fun w w' v hb h => h), (fun w w' v hb h => h), (fun w w' v hb h => h), (fun w w' v hb h => h), (fun w w' v hb h => h), (fun w w' v hb h => h), (fun w w' v hb h => h), (fun w w' v hb h => h), (fun w w' v hb h => h), (fun w w' v hb h => h), (fun w w' v hb h => h), (fun w w' v hb h => h), (fun w w' v hb h => h), (fun w w' v hb h => h), (fun w w' v hb h => h), (fun w w' v hb h => h), (fun w w' v hb h => h), (fun w w' v hb h => h), (fun w w' v hb h => h), (fun w w' v hb h => h), (fun w w' v hb h => h), (fun w w' v hb h => h), (fun w w' v hb h => h), (fun w w' v hb h => h), (fun w w' v hb h => h), (fun w w' v hb h => h), (fun w w' v hb h => h.below hb), (fun w w' v hb h => h.below hb), (fun w w' v hb h => h), (fun w w' v hb h => h), (fun w w' v hb h => h), (fun w w' v hb h => h), trivial⟩
            case r19_6o0 =>
              intro vs w hb hV
              rw [if_pos (by kernel_rfl)]
              generalize hρ : rho _ _ _ vs = ρ
              have e22 : ρ (.tmp 22) = .int .i64 0 := by rw [← hρ]; kernel_rfl
              clear hρ hV
              refine runs_val (v := .int .i64 0) (w' := w) ?_ ⟨Below.refl _ _, rfl⟩
              go_simp <;> (first | exact IntWalk.u64_in _ (by omega) | exact IntWalk.u32_in _ (by omega) | exact IntWalk.u16_in _ (by omega) | exact IntWalk.u8_in _ (by omega) | exact IntWalk.i64_in _ (by omega) | skip)
            case r19_6o1 =>
              intro vs w hb hV
              rw [if_pos (by kernel_rfl)]
              generalize hρ : rho _ _ _ vs = ρ
              have d115 : (vs 0) = .int .i64 0 := hV 0 (by kernel_rfl)
              have e115 : ρ (.tmp 115) = vs 0 := by rw [← hρ]; kernel_rfl
              rw [d115] at e115; clear d115
              have econ : ∀ v : Value, ρ (.const v) = v := fun v => by rw [← hρ]; rfl
              clear hρ hV
              refine runs_val (v := .bool true) (w' := w) ?_ ⟨Below.refl _ _, rfl⟩
              go_simp <;> (first | exact IntWalk.u64_in _ (by omega) | exact IntWalk.u32_in _ (by omega) | exact IntWalk.u16_in _ (by omega) | exact IntWalk.u8_in _ (by omega) | exact IntWalk.i64_in _ (by omega) | skip)
            case r19_6o2 =>
              intro vs w hb hV
              rw [if_pos (by kernel_rfl)]
              generalize hρ : rho _ _ _ vs = ρ
              have d116 : (vs 1) = .bool true := hV 1 (by kernel_rfl)
              have e116 : ρ (.tmp 116) = vs 1 := by rw [← hρ]; kernel_rfl
              clear hρ hV
              refine runs_val (v := vs 1) (w' := w) ?_ ⟨Below.refl _ _, d116⟩
              go_simp
            case r19_6o3 =>
              intro vs w hb hV
              rw [if_pos (by kernel_rfl)]
              generalize hρ : rho _ _ _ vs = ρ
              have e21 : ρ (.tmp 21) = .pointer (some ⟨g21, 0, none⟩) := by rw [← hρ]; kernel_rfl
              clear hρ hV
              exact runs_load 34 (.tmp 21) rfl g21 e21 34 (boardC Vh m) (0, 0) _ (((hb.block g21 (blk_lt (HP22.out.get (i := 1) rfl))).trans (HP22.out.get (i := 1) rfl))) Try.underlying34 rfl (HI _ _).out ⟨Below.refl _ _, rfl⟩
            case r19_6o4 =>
              intro vs w hb hV
              rw [if_pos (by kernel_rfl)]
              generalize hρ : rho _ _ _ vs = ρ
              have e17 : ρ (.tmp 17) = .pointer (some ⟨gb, 0, none⟩) := by rw [← hρ]; kernel_rfl
              clear hρ hV
              exact runs_load 34 (.tmp 17) rfl gb e17 34 (boardC h m) (0, 0) _ (((hb.block gb (blk_lt (HP22.out.get (i := 4) rfl))).trans (HP22.out.get (i := 4) rfl))) Try.underlying34 rfl (HI _ _).out ⟨Below.refl _ _, rfl⟩
            case r19_6o5 =>
              intro vs w hb hV
              rw [if_pos (by kernel_rfl)]
              generalize hρ : rho _ _ _ vs = ρ
              have e3 : ρ (.tmp 3) = .int .i64 o := by rw [← hρ]; kernel_rfl
              clear hρ hV
              refine runs_val (v := .int .i64 o) (w' := w) ?_ ⟨Below.refl _ _, rfl⟩
              go_simp <;> (first | exact IntWalk.u64_in _ (by omega) | exact IntWalk.u32_in _ (by omega) | exact IntWalk.u16_in _ (by omega) | exact IntWalk.u8_in _ (by omega) | exact IntWalk.i64_in _ (by omega) | skip)
            case r19_6o6 =>
              intro vs w hb hV
              rw [if_pos (by kernel_rfl)]
              generalize hρ : rho _ _ _ vs = ρ
              have d119 : (vs 4) = .agg (boardC h m) := hV 4 (by kernel_rfl)
              have e119 : ρ (.tmp 119) = vs 4 := by rw [← hρ]; kernel_rfl
              rw [d119] at e119; clear d119
              have d120 : (vs 5) = .int .i64 o := hV 5 (by kernel_rfl)
              have e120 : ρ (.tmp 120) = vs 5 := by rw [← hρ]; kernel_rfl
              rw [d120] at e120; clear d120
              have ef16 : ρ (.func 16) = .func (.func 16) #[] #[] := by rw [← hρ]; rfl
              clear hρ hV
              refine runs_call (f := 16) (args := #[.agg (boardC h m), .int .i64 o]) (w' := w) ?_ ?_
              · go_simp
              · refine (KW.out.2 _).mono ?_
                rintro e w5 ⟨rfl, hb5⟩
                exact ⟨_, rfl, hb5, rfl⟩
            case r19_6o7 =>
              intro vs w hb hV
              rw [if_pos (by kernel_rfl)]
              generalize hρ : rho _ _ _ vs = ρ
              have d118 : (vs 3) = .agg (boardC Vh m) := hV 3 (by kernel_rfl)
              have e118 : ρ (.tmp 118) = vs 3 := by rw [← hρ]; kernel_rfl
              rw [d118] at e118; clear d118
              have d121 : (vs 6) = .agg (boardC Vh m) := hV 6 (by kernel_rfl)
              have e121 : ρ (.tmp 121) = vs 6 := by rw [← hρ]; kernel_rfl
              rw [d121] at e121; clear d121
              clear hρ hV
              obtain ⟨hbe, hbg⟩ := HBE.out
              refine runs_val (v := .bool true) (w' := w) ?_ ⟨Below.refl _ _, rfl⟩
              go_simp
            case r19_6o8 =>
              intro vs w hb hV
              rw [if_pos (by kernel_rfl)]
              generalize hρ : rho _ _ _ vs = ρ
              have d117 : (vs 2) = .bool true := hV 2 (by kernel_rfl)
              have e117 : ρ (.tmp 117) = vs 2 := by rw [← hρ]; kernel_rfl
              rw [d117] at e117; clear d117
              have d122 : (vs 7) = .bool true := hV 7 (by kernel_rfl)
              have e122 : ρ (.tmp 122) = vs 7 := by rw [← hρ]; kernel_rfl
              rw [d122] at e122; clear d122
              have econ : ∀ v : Value, ρ (.const v) = v := fun v => by rw [← hρ]; rfl
              clear hρ hV
              refine runs_val (v := .bool true) (w' := w) ?_ ⟨Below.refl _ _, rfl⟩
              go_simp <;> (first | exact IntWalk.u64_in _ (by omega) | exact IntWalk.u32_in _ (by omega) | exact IntWalk.u16_in _ (by omega) | exact IntWalk.u8_in _ (by omega) | exact IntWalk.i64_in _ (by omega) | skip)
            case r19_6o9 =>
              intro vs w hb hV
              rw [if_pos (by kernel_rfl)]
              generalize hρ : rho _ _ _ vs = ρ
              have d123 : (vs 8) = .bool true := hV 8 (by kernel_rfl)
              have e123 : ρ (.tmp 123) = vs 8 := by rw [← hρ]; kernel_rfl
              clear hρ hV
              refine runs_val (v := vs 8) (w' := w) ?_ ⟨Below.refl _ _, d123⟩
              go_simp
            case r19_6o10 =>
              intro vs w hb hV
              rw [if_pos (by kernel_rfl)]
              generalize hρ : rho _ _ _ vs = ρ
              have e24 : ρ (.tmp 24) = .int .i64 0 := by rw [← hρ]; kernel_rfl
              clear hρ hV
              refine runs_val (v := .int .i64 0) (w' := w) ?_ ⟨Below.refl _ _, rfl⟩
              go_simp <;> (first | exact IntWalk.u64_in _ (by omega) | exact IntWalk.u32_in _ (by omega) | exact IntWalk.u16_in _ (by omega) | exact IntWalk.u8_in _ (by omega) | exact IntWalk.i64_in _ (by omega) | skip)
            case r19_6o11 =>
              intro vs w hb hV
              rw [if_pos (by kernel_rfl)]
              generalize hρ : rho _ _ _ vs = ρ
              have d125 : (vs 10) = .int .i64 0 := hV 10 (by kernel_rfl)
              have e125 : ρ (.tmp 125) = vs 10 := by rw [← hρ]; kernel_rfl
              rw [d125] at e125; clear d125
              have econ : ∀ v : Value, ρ (.const v) = v := fun v => by rw [← hρ]; rfl
              clear hρ hV
              refine runs_val (v := .bool true) (w' := w) ?_ ⟨Below.refl _ _, rfl⟩
              go_simp <;> (first | exact IntWalk.u64_in _ (by omega) | exact IntWalk.u32_in _ (by omega) | exact IntWalk.u16_in _ (by omega) | exact IntWalk.u8_in _ (by omega) | exact IntWalk.i64_in _ (by omega) | skip)
            case r19_6o12 =>
              intro vs w hb hV
              rw [if_pos (by kernel_rfl)]
              generalize hρ : rho _ _ _ vs = ρ
              have d124 : (vs 9) = .bool true := hV 9 (by kernel_rfl)
              have e124 : ρ (.tmp 124) = vs 9 := by rw [← hρ]; kernel_rfl
              rw [d124] at e124; clear d124
              have d126 : (vs 11) = .bool true := hV 11 (by kernel_rfl)
              have e126 : ρ (.tmp 126) = vs 11 := by rw [← hρ]; kernel_rfl
              rw [d126] at e126; clear d126
              have econ : ∀ v : Value, ρ (.const v) = v := fun v => by rw [← hρ]; rfl
              clear hρ hV
              refine runs_val (v := .bool true) (w' := w) ?_ ⟨Below.refl _ _, rfl⟩
              go_simp <;> (first | exact IntWalk.u64_in _ (by omega) | exact IntWalk.u32_in _ (by omega) | exact IntWalk.u16_in _ (by omega) | exact IntWalk.u8_in _ (by omega) | exact IntWalk.i64_in _ (by omega) | skip)
            case r19_6o13 =>
              intro vs w hb hV
              rw [if_pos (by kernel_rfl)]
              generalize hρ : rho _ _ _ vs = ρ
              have d127 : (vs 12) = .bool true := hV 12 (by kernel_rfl)
              have e127 : ρ (.tmp 127) = vs 12 := by rw [← hρ]; kernel_rfl
              clear hρ hV
              refine runs_val (v := vs 12) (w' := w) ?_ ⟨Below.refl _ _, d127⟩
              go_simp
            case r19_6o14 =>
              intro vs w hb hV
              rw [if_pos (by kernel_rfl)]
              generalize hρ : rho _ _ _ vs = ρ
              have e23 : ρ (.tmp 23) = .pointer (some ⟨g23, 0, none⟩) := by rw [← hρ]; kernel_rfl
              clear hρ hV
              exact runs_load 34 (.tmp 23) rfl g23 e23 34 (boardC Vh m) (0, 0) _ (((hb.block g23 (blk_lt (HP22.out.get (i := 0) rfl))).trans (HP22.out.get (i := 0) rfl))) Try.underlying34 rfl (HI _ _).out ⟨Below.refl _ _, rfl⟩
            case r19_6o15 =>
              intro vs w hb hV
              rw [if_pos (by kernel_rfl)]
              generalize hρ : rho _ _ _ vs = ρ
              have e17 : ρ (.tmp 17) = .pointer (some ⟨gb, 0, none⟩) := by rw [← hρ]; kernel_rfl
              clear hρ hV
              exact runs_load 34 (.tmp 17) rfl gb e17 34 (boardC h m) (0, 0) _ (((hb.block gb (blk_lt (HP22.out.get (i := 4) rfl))).trans (HP22.out.get (i := 4) rfl))) Try.underlying34 rfl (HI _ _).out ⟨Below.refl _ _, rfl⟩
            case r19_6o16 =>
              intro vs w hb hV
              rw [if_pos (by kernel_rfl)]
              generalize hρ : rho _ _ _ vs = ρ
              have e3 : ρ (.tmp 3) = .int .i64 o := by rw [← hρ]; kernel_rfl
              clear hρ hV
              refine runs_val (v := .int .i64 o) (w' := w) ?_ ⟨Below.refl _ _, rfl⟩
              go_simp <;> (first | exact IntWalk.u64_in _ (by omega) | exact IntWalk.u32_in _ (by omega) | exact IntWalk.u16_in _ (by omega) | exact IntWalk.u8_in _ (by omega) | exact IntWalk.i64_in _ (by omega) | skip)
            case r19_6o17 =>
              intro vs w hb hV
              rw [if_pos (by kernel_rfl)]
              generalize hρ : rho _ _ _ vs = ρ
              have d130 : (vs 15) = .agg (boardC h m) := hV 15 (by kernel_rfl)
              have e130 : ρ (.tmp 130) = vs 15 := by rw [← hρ]; kernel_rfl
              rw [d130] at e130; clear d130
              have d131 : (vs 16) = .int .i64 o := hV 16 (by kernel_rfl)
              have e131 : ρ (.tmp 131) = vs 16 := by rw [← hρ]; kernel_rfl
              rw [d131] at e131; clear d131
              have ef16 : ρ (.func 16) = .func (.func 16) #[] #[] := by rw [← hρ]; rfl
              clear hρ hV
              refine runs_call (f := 16) (args := #[.agg (boardC h m), .int .i64 o]) (w' := w) ?_ ?_
              · go_simp
              · refine (KW.out.2 _).mono ?_
                rintro e w5 ⟨rfl, hb5⟩
                exact ⟨_, rfl, hb5, rfl⟩
            case r19_6o18 =>
              intro vs w hb hV
              rw [if_pos (by kernel_rfl)]
              generalize hρ : rho _ _ _ vs = ρ
              have d129 : (vs 14) = .agg (boardC Vh m) := hV 14 (by kernel_rfl)
              have e129 : ρ (.tmp 129) = vs 14 := by rw [← hρ]; kernel_rfl
              rw [d129] at e129; clear d129
              have d132 : (vs 17) = .agg (boardC Vh m) := hV 17 (by kernel_rfl)
              have e132 : ρ (.tmp 132) = vs 17 := by rw [← hρ]; kernel_rfl
              rw [d132] at e132; clear d132
              clear hρ hV
              obtain ⟨hbe, hbg⟩ := HBE.out
              refine runs_val (v := .bool true) (w' := w) ?_ ⟨Below.refl _ _, rfl⟩
              go_simp
            case r19_6o19 =>
              intro vs w hb hV
              rw [if_pos (by kernel_rfl)]
              generalize hρ : rho _ _ _ vs = ρ
              have d128 : (vs 13) = .bool true := hV 13 (by kernel_rfl)
              have e128 : ρ (.tmp 128) = vs 13 := by rw [← hρ]; kernel_rfl
              rw [d128] at e128; clear d128
              have d133 : (vs 18) = .bool true := hV 18 (by kernel_rfl)
              have e133 : ρ (.tmp 133) = vs 18 := by rw [← hρ]; kernel_rfl
              rw [d133] at e133; clear d133
              have econ : ∀ v : Value, ρ (.const v) = v := fun v => by rw [← hρ]; rfl
              clear hρ hV
              refine runs_val (v := .bool true) (w' := w) ?_ ⟨Below.refl _ _, rfl⟩
              go_simp <;> (first | exact IntWalk.u64_in _ (by omega) | exact IntWalk.u32_in _ (by omega) | exact IntWalk.u16_in _ (by omega) | exact IntWalk.u8_in _ (by omega) | exact IntWalk.i64_in _ (by omega) | skip)
            case r19_6o20 =>
              intro vs w hb hV
              rw [if_pos (by kernel_rfl)]
              generalize hρ : rho _ _ _ vs = ρ
              have d134 : (vs 19) = .bool true := hV 19 (by kernel_rfl)
              have e134 : ρ (.tmp 134) = vs 19 := by rw [← hρ]; kernel_rfl
              clear hρ hV
              refine runs_val (v := vs 19) (w' := w) ?_ ⟨Below.refl _ _, d134⟩
              go_simp
            case r19_6o21 =>
              intro vs w hb hV
              rw [if_pos (by kernel_rfl)]
              generalize hρ : rho _ _ _ vs = ρ
              have e25 : ρ (.tmp 25) = .int .i64 bn := by rw [← hρ]; kernel_rfl
              clear hρ hV
              refine runs_val (v := .int .i64 bn) (w' := w) ?_ ⟨Below.refl _ _, rfl⟩
              go_simp <;> (first | exact IntWalk.u64_in _ (by omega) | exact IntWalk.u32_in _ (by omega) | exact IntWalk.u16_in _ (by omega) | exact IntWalk.u8_in _ (by omega) | exact IntWalk.i64_in _ (by omega) | skip)
            case r19_6o22 =>
              intro vs w hb hV
              rw [if_pos (by kernel_rfl)]
              generalize hρ : rho _ _ _ vs = ρ
              have e2 : ρ (.tmp 2) = .int .u64 t := by rw [← hρ]; kernel_rfl
              clear hρ hV
              refine runs_val (v := .int .u64 t) (w' := w) ?_ ⟨Below.refl _ _, rfl⟩
              go_simp <;> (first | exact IntWalk.u64_in _ (by omega) | exact IntWalk.u32_in _ (by omega) | exact IntWalk.u16_in _ (by omega) | exact IntWalk.u8_in _ (by omega) | exact IntWalk.i64_in _ (by omega) | skip)
            case r19_6o23 =>
              intro vs w hb hV
              rw [if_pos (by kernel_rfl)]
              generalize hρ : rho _ _ _ vs = ρ
              have e17 : ρ (.tmp 17) = .pointer (some ⟨gb, 0, none⟩) := by rw [← hρ]; kernel_rfl
              clear hρ hV
              exact runs_load 34 (.tmp 17) rfl gb e17 34 (boardC h m) (0, 0) _ (((hb.block gb (blk_lt (HP22.out.get (i := 4) rfl))).trans (HP22.out.get (i := 4) rfl))) Try.underlying34 rfl (HI _ _).out ⟨Below.refl _ _, rfl⟩
            case r19_6o24 =>
              intro vs w hb hV
              rw [if_pos (by kernel_rfl)]
              generalize hρ : rho _ _ _ vs = ρ
              have d137 : (vs 22) = .int .u64 t := hV 22 (by kernel_rfl)
              have e137 : ρ (.tmp 137) = vs 22 := by rw [← hρ]; kernel_rfl
              rw [d137] at e137; clear d137
              have d138 : (vs 23) = .agg (boardC h m) := hV 23 (by kernel_rfl)
              have e138 : ρ (.tmp 138) = vs 23 := by rw [← hρ]; kernel_rfl
              rw [d138] at e138; clear d138
              have ef25 : ρ (.func 25) = .func (.func 25) #[] #[] := by rw [← hρ]; rfl
              clear hρ hV
              refine runs_call (f := 25) (args := #[.int .u64 t, .agg (boardC h m)]) (w' := w) ?_ ?_
              · go_simp
              · refine (HSZ.out _).mono ?_
                rintro e w5 ⟨rfl, hb5⟩
                exact ⟨_, rfl, hb5, rfl⟩
            case r19_6o25 =>
              intro vs w hb hV
              rw [if_pos (by kernel_rfl)]
              generalize hρ : rho _ _ _ vs = ρ
              have d136 : (vs 21) = .int .i64 bn := hV 21 (by kernel_rfl)
              have e136 : ρ (.tmp 136) = vs 21 := by rw [← hρ]; kernel_rfl
              rw [d136] at e136; clear d136
              have d139 : (vs 24) = .int .i64 bn := hV 24 (by kernel_rfl)
              have e139 : ρ (.tmp 139) = vs 24 := by rw [← hρ]; kernel_rfl
              rw [d139] at e139; clear d139
              clear hρ hV
              refine runs_val (v := .bool true) (w' := w) ?_ ⟨Below.refl _ _, rfl⟩
              go_simp <;> (first | exact IntWalk.u64_in _ (by omega) | exact IntWalk.u32_in _ (by omega) | exact IntWalk.u16_in _ (by omega) | exact IntWalk.u8_in _ (by omega) | exact IntWalk.i64_in _ (by omega) | skip)
            case r19_6o26 =>
              intro vs w hb hV
              rw [if_pos (by kernel_rfl)]
              generalize hρ : rho _ _ _ vs = ρ
              have d135 : (vs 20) = .bool true := hV 20 (by kernel_rfl)
              have e135 : ρ (.tmp 135) = vs 20 := by rw [← hρ]; kernel_rfl
              rw [d135] at e135; clear d135
              have d140 : (vs 25) = .bool true := hV 25 (by kernel_rfl)
              have e140 : ρ (.tmp 140) = vs 25 := by rw [← hρ]; kernel_rfl
              rw [d140] at e140; clear d140
              have econ : ∀ v : Value, ρ (.const v) = v := fun v => by rw [← hρ]; rfl
              clear hρ hV
              refine runs_val (v := .bool true) (w' := w) ?_ ⟨Below.refl _ _, rfl⟩
              go_simp <;> (first | exact IntWalk.u64_in _ (by omega) | exact IntWalk.u32_in _ (by omega) | exact IntWalk.u16_in _ (by omega) | exact IntWalk.u8_in _ (by omega) | exact IntWalk.i64_in _ (by omega) | skip)
            case r19_6o27 =>
              intro vs w hb hV
              rw [if_pos (by kernel_rfl)]
              generalize hρ : rho _ _ _ vs = ρ
              have d141 : (vs 26) = .bool true := hV 26 (by kernel_rfl)
              have e141 : ρ (.tmp 141) = vs 26 := by rw [← hρ]; kernel_rfl
              clear hρ hV
              refine runs_val (v := vs 26) (w' := w) ?_ ⟨Below.refl _ _, d141⟩
              go_simp
            case r19_6o28 =>
              intro vs w hb hV
              rw [if_pos (by kernel_rfl)]
              generalize hρ : rho _ _ _ vs = ρ
              have e25 : ρ (.tmp 25) = .int .i64 bn := by rw [← hρ]; kernel_rfl
              clear hρ hV
              refine runs_val (v := .int .i64 bn) (w' := w) ?_ ⟨Below.refl _ _, rfl⟩
              go_simp <;> (first | exact IntWalk.u64_in _ (by omega) | exact IntWalk.u32_in _ (by omega) | exact IntWalk.u16_in _ (by omega) | exact IntWalk.u8_in _ (by omega) | exact IntWalk.i64_in _ (by omega) | skip)
            case r19_6o29 =>
              intro vs w hb hV
              rw [if_pos (by kernel_rfl)]
              generalize hρ : rho _ _ _ vs = ρ
              have e17 : ρ (.tmp 17) = .pointer (some ⟨gb, 0, none⟩) := by rw [← hρ]; kernel_rfl
              clear hρ hV
              exact runs_load 34 (.tmp 17) rfl gb e17 34 (boardC h m) (0, 0) _ (((hb.block gb (blk_lt (HP22.out.get (i := 4) rfl))).trans (HP22.out.get (i := 4) rfl))) Try.underlying34 rfl (HI _ _).out ⟨Below.refl _ _, rfl⟩
            case r19_6o30 =>
              intro vs w hb hV
              rw [if_pos (by kernel_rfl)]
              generalize hρ : rho _ _ _ vs = ρ
              have e2 : ρ (.tmp 2) = .int .u64 t := by rw [← hρ]; kernel_rfl
              clear hρ hV
              refine runs_val (v := .int .u64 t) (w' := w) ?_ ⟨Below.refl _ _, rfl⟩
              go_simp <;> (first | exact IntWalk.u64_in _ (by omega) | exact IntWalk.u32_in _ (by omega) | exact IntWalk.u16_in _ (by omega) | exact IntWalk.u8_in _ (by omega) | exact IntWalk.i64_in _ (by omega) | skip)
            case r19_6o31 =>
              intro vs w hb hV
              rw [if_pos (by kernel_rfl)]
              generalize hρ : rho _ _ _ vs = ρ
              have e4 : ρ (.tmp 4) = .int .i64 p := by rw [← hρ]; kernel_rfl
              clear hρ hV
              refine runs_val (v := .int .i64 p) (w' := w) ?_ ⟨Below.refl _ _, rfl⟩
              go_simp <;> (first | exact IntWalk.u64_in _ (by omega) | exact IntWalk.u32_in _ (by omega) | exact IntWalk.u16_in _ (by omega) | exact IntWalk.u8_in _ (by omega) | exact IntWalk.i64_in _ (by omega) | skip)
            case r19_6o32 =>
              intro vs w hb hV
              rw [if_pos (by kernel_rfl)]
              generalize hρ : rho _ _ _ vs = ρ
              have e5 : ρ (.tmp 5) = .int .u32 tk := by rw [← hρ]; kernel_rfl
              clear hρ hV
              refine runs_val (v := .int .u32 tk) (w' := w) ?_ ⟨Below.refl _ _, rfl⟩
              go_simp <;> (first | exact IntWalk.u64_in _ (by omega) | exact IntWalk.u32_in _ (by omega) | exact IntWalk.u16_in _ (by omega) | exact IntWalk.u8_in _ (by omega) | exact IntWalk.i64_in _ (by omega) | skip)
            case r19_6o33 =>
              intro vs w hb hV
              rw [if_pos (by kernel_rfl)]
              generalize hρ : rho _ _ _ vs = ρ
              have d144 : (vs 29) = .agg (boardC h m) := hV 29 (by kernel_rfl)
              have e144 : ρ (.tmp 144) = vs 29 := by rw [← hρ]; kernel_rfl
              rw [d144] at e144; clear d144
              have d145 : (vs 30) = .int .u64 t := hV 30 (by kernel_rfl)
              have e145 : ρ (.tmp 145) = vs 30 := by rw [← hρ]; kernel_rfl
              rw [d145] at e145; clear d145
              have d146 : (vs 31) = .int .i64 p := hV 31 (by kernel_rfl)
              have e146 : ρ (.tmp 146) = vs 31 := by rw [← hρ]; kernel_rfl
              rw [d146] at e146; clear d146
              have d147 : (vs 32) = .int .u32 tk := hV 32 (by kernel_rfl)
              have e147 : ρ (.tmp 147) = vs 32 := by rw [← hρ]; kernel_rfl
              rw [d147] at e147; clear d147
              have ef13 : ρ (.func 13) = .func (.func 13) #[] #[] := by rw [← hρ]; rfl
              clear hρ hV
              refine runs_call (f := 13) (args := #[.agg (boardC h m), .int .u64 t, .int .i64 p, .int .u32 tk]) (w' := w) ?_ ?_
              · go_simp
              · refine (KP.out _).mono ?_
                rintro e w5 ⟨v, rfl, hv, hb5⟩
                exact ⟨_, rfl, hb5, hv⟩
            case r19_6o34 =>
              intro vs w hb hV
              rw [if_pos (by kernel_rfl)]
              generalize hρ : rho _ _ _ vs = ρ
              have d148 : (fun (w : World) (v : Value) => DvC w tk hsp P1 C5 v) w (vs 33) := hV 33 (by kernel_rfl)
              have e148 : ρ (.tmp 148) = vs 33 := by rw [← hρ]; kernel_rfl
              have ef14 : ρ (.func 14) = .func (.func 14) #[] #[] := by rw [← hρ]; rfl
              clear hρ hV
              refine runs_call (f := 14) (args := #[vs 33]) (w' := w) ?_ ?_
              · go_simp
              · refine (KZ.out _ _ d148).mono ?_
                rintro e w5 ⟨v, rfl, hv, hb5⟩
                exact ⟨_, rfl, hb5, hv⟩
            case r19_6o35 =>
              intro vs w hb hV
              rw [if_pos (by kernel_rfl)]
              generalize hρ : rho _ _ _ vs = ρ
              have d149 : (fun (w : World) (v : Value) => BvC w (dBytes tk hsp P1 C5) v) w (vs 34) := hV 34 (by kernel_rfl)
              have e149 : ρ (.tmp 149) = vs 34 := by rw [← hρ]; kernel_rfl
              clear hρ hV
              obtain ⟨A10, c10, e10, _, _⟩ := d149
              rw [HLZ.out] at e10
              rw [e10] at e149
              refine runs_val (v := .int .i64 bn) (w' := w) ?_ ⟨Below.refl _ _, rfl⟩
              go_simp
            case r19_6o36 =>
              intro vs w hb hV
              rw [if_pos (by kernel_rfl)]
              generalize hρ : rho _ _ _ vs = ρ
              have d143 : (vs 28) = .int .i64 bn := hV 28 (by kernel_rfl)
              have e143 : ρ (.tmp 143) = vs 28 := by rw [← hρ]; kernel_rfl
              rw [d143] at e143; clear d143
              have d150 : (vs 35) = .int .i64 bn := hV 35 (by kernel_rfl)
              have e150 : ρ (.tmp 150) = vs 35 := by rw [← hρ]; kernel_rfl
              rw [d150] at e150; clear d150
              clear hρ hV
              refine runs_val (v := .bool true) (w' := w) ?_ ⟨Below.refl _ _, rfl⟩
              go_simp <;> (first | exact IntWalk.u64_in _ (by omega) | exact IntWalk.u32_in _ (by omega) | exact IntWalk.u16_in _ (by omega) | exact IntWalk.u8_in _ (by omega) | exact IntWalk.i64_in _ (by omega) | skip)
            case r19_6o37 =>
              intro vs w hb hV
              rw [if_pos (by kernel_rfl)]
              generalize hρ : rho _ _ _ vs = ρ
              have d142 : (vs 27) = .bool true := hV 27 (by kernel_rfl)
              have e142 : ρ (.tmp 142) = vs 27 := by rw [← hρ]; kernel_rfl
              rw [d142] at e142; clear d142
              have d151 : (vs 36) = .bool true := hV 36 (by kernel_rfl)
              have e151 : ρ (.tmp 151) = vs 36 := by rw [← hρ]; kernel_rfl
              rw [d151] at e151; clear d151
              have econ : ∀ v : Value, ρ (.const v) = v := fun v => by rw [← hρ]; rfl
              clear hρ hV
              refine runs_val (v := .bool true) (w' := w) ?_ ⟨Below.refl _ _, rfl⟩
              go_simp <;> (first | exact IntWalk.u64_in _ (by omega) | exact IntWalk.u32_in _ (by omega) | exact IntWalk.u16_in _ (by omega) | exact IntWalk.u8_in _ (by omega) | exact IntWalk.i64_in _ (by omega) | skip)
            case r19_6o38 =>
              intro vs w hb hV
              rw [if_pos (by kernel_rfl)]
              generalize hρ : rho _ _ _ vs = ρ
              have d152 : (vs 37) = .bool true := hV 37 (by kernel_rfl)
              have e152 : ρ (.tmp 152) = vs 37 := by rw [← hρ]; kernel_rfl
              clear hρ hV
              refine runs_val (v := vs 37) (w' := w) ?_ ⟨Below.refl _ _, d152⟩
              go_simp
            case r19_6e =>
              intro vs x13 hb13 hV
              have d115 : (vs 0) = .int .i64 0 := hV 0 (Nat.le_of_ble_eq_true rfl)
              have d116 : (vs 1) = .bool true := hV 1 (Nat.le_of_ble_eq_true rfl)
              have d117 : (vs 2) = .bool true := hV 2 (Nat.le_of_ble_eq_true rfl)
              have d118 : (vs 3) = .agg (boardC Vh m) := hV 3 (Nat.le_of_ble_eq_true rfl)
              have d119 : (vs 4) = .agg (boardC h m) := hV 4 (Nat.le_of_ble_eq_true rfl)
              have d120 : (vs 5) = .int .i64 o := hV 5 (Nat.le_of_ble_eq_true rfl)
              have d121 : (vs 6) = .agg (boardC Vh m) := hV 6 (Nat.le_of_ble_eq_true rfl)
              have d122 : (vs 7) = .bool true := hV 7 (Nat.le_of_ble_eq_true rfl)
              have d123 : (vs 8) = .bool true := hV 8 (Nat.le_of_ble_eq_true rfl)
              have d124 : (vs 9) = .bool true := hV 9 (Nat.le_of_ble_eq_true rfl)
              have d125 : (vs 10) = .int .i64 0 := hV 10 (Nat.le_of_ble_eq_true rfl)
              have d126 : (vs 11) = .bool true := hV 11 (Nat.le_of_ble_eq_true rfl)
              have d127 : (vs 12) = .bool true := hV 12 (Nat.le_of_ble_eq_true rfl)
              have d128 : (vs 13) = .bool true := hV 13 (Nat.le_of_ble_eq_true rfl)
              have d129 : (vs 14) = .agg (boardC Vh m) := hV 14 (Nat.le_of_ble_eq_true rfl)
              have d130 : (vs 15) = .agg (boardC h m) := hV 15 (Nat.le_of_ble_eq_true rfl)
              have d131 : (vs 16) = .int .i64 o := hV 16 (Nat.le_of_ble_eq_true rfl)
              have d132 : (vs 17) = .agg (boardC Vh m) := hV 17 (Nat.le_of_ble_eq_true rfl)
              have d133 : (vs 18) = .bool true := hV 18 (Nat.le_of_ble_eq_true rfl)
              have d134 : (vs 19) = .bool true := hV 19 (Nat.le_of_ble_eq_true rfl)
              have d135 : (vs 20) = .bool true := hV 20 (Nat.le_of_ble_eq_true rfl)
              have d136 : (vs 21) = .int .i64 bn := hV 21 (Nat.le_of_ble_eq_true rfl)
              have d137 : (vs 22) = .int .u64 t := hV 22 (Nat.le_of_ble_eq_true rfl)
              have d138 : (vs 23) = .agg (boardC h m) := hV 23 (Nat.le_of_ble_eq_true rfl)
              have d139 : (vs 24) = .int .i64 bn := hV 24 (Nat.le_of_ble_eq_true rfl)
              have d140 : (vs 25) = .bool true := hV 25 (Nat.le_of_ble_eq_true rfl)
              have d141 : (vs 26) = .bool true := hV 26 (Nat.le_of_ble_eq_true rfl)
              have d142 : (vs 27) = .bool true := hV 27 (Nat.le_of_ble_eq_true rfl)
              have d143 : (vs 28) = .int .i64 bn := hV 28 (Nat.le_of_ble_eq_true rfl)
              have d144 : (vs 29) = .agg (boardC h m) := hV 29 (Nat.le_of_ble_eq_true rfl)
              have d145 : (vs 30) = .int .u64 t := hV 30 (Nat.le_of_ble_eq_true rfl)
              have d146 : (vs 31) = .int .i64 p := hV 31 (Nat.le_of_ble_eq_true rfl)
              have d147 : (vs 32) = .int .u32 tk := hV 32 (Nat.le_of_ble_eq_true rfl)
              have d148 : (fun (w : World) (v : Value) => DvC w tk hsp P1 C5 v) x13 (vs 33) := hV 33 (Nat.le_of_ble_eq_true rfl)
              have d149 : (fun (w : World) (v : Value) => BvC w (dBytes tk hsp P1 C5) v) x13 (vs 34) := hV 34 (Nat.le_of_ble_eq_true rfl)
              have d150 : (vs 35) = .int .i64 bn := hV 35 (Nat.le_of_ble_eq_true rfl)
              have d151 : (vs 36) = .bool true := hV 36 (Nat.le_of_ble_eq_true rfl)
              have d152 : (vs 37) = .bool true := hV 37 (Nat.le_of_ble_eq_true rfl)
              have d12 : (vs 38) = .bool true := hV 38 (Nat.le_of_ble_eq_true rfl)
              clear hV
              simp only [putAll]
              rw [d115, d116, d117, d118, d119, d120, d121, d122, d123, d124, d125, d126, d127, d128, d129, d130, d131, d132, d133, d134, d135, d136, d137, d138, d139, d140, d141, d142, d143, d144, d145, d146, d147, d150, d151, d152, d12]
              clear d115 d116 d117 d118 d119 d120 d121 d122 d123 d124 d125 d126 d127 d128 d129 d130 d131 d132 d133 d134 d135 d136 d137 d138 d139 d140 d141 d142 d143 d144 d145 d146 d147 d150 d151 d152 d12
              generalize vs 33 = v148 at *
              generalize vs 34 = v149 at *
              clear vs
              simp only [Act.put, List.setIfInBounds_toArray, List.set_cons_zero, List.set_cons_succ]
              have HP23 := Aside0.mk (HP22.out.call hb13)
              clear hb13 HP22 d148 d149
              go_wp2_with fail
              go_ret
              exact ⟨rfl, HP23.out.bel⟩
end Go.Proofs.Ytkhlalpkkmjfnaa
