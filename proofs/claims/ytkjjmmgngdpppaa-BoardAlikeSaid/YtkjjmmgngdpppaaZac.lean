/- The parts of this proof, one behind the other: contracts of the functions, plain laws, the walk. -/
import Derived.Test.YtkjjmmgngdpppaaZab
import Derived.Deep.RegionHeld3
namespace Go.Proofs.Ytkjjmmgngdpppaa
open Go.RowKit Go.Proofs.YtkjjmmgngdpppaaW.PrintWords Go.Proofs.YtkjjmmgngdpppaaW.PrintLast Go.Proofs.YtkjjmmgngdpppaaW.PrintMore
set_option linter.unusedVariables false
set_option linter.unusedSimpArgs false

theorem fL_listF (h : Nat → S25) (m : Nat) (e : ∀ j, ¬ j < m → h j = z25) : fL (listF h m) = h := by
  funext j
  by_cases hj : j < m
  · rw [fL_get (by rw [listF_length]; exact hj), listF_get]
  · rw [e j hj]; unfold fL; rw [List.getD_eq_getElem?_getD, List.getElem?_eq_none (by rw [listF_length]; omega)]; rfl
theorem fL_out {M : List S25} {j : Nat} (h : ¬ j < M.length) : fL M j = z25 := by unfold fL; rw [List.getD_eq_getElem?_getD, List.getElem?_eq_none (by omega)]; rfl
theorem half_alike (M : List S25) (o : Int) : sameB (viewF (fL M) M.length o) (viewF (fL (M.take (M.length / 2))) (M.length / 2 : Nat) o) (M.length : Int) ((M.length / 2 : Nat) : Int) = ((M.length : Int) == ((M.length / 2 : Nat) : Int)) := by
  by_cases h : M.length = M.length / 2
  · have h0 : M.length = 0 := by omega
    obtain rfl : M = [] := List.length_eq_zero_iff.1 h0
    rfl
  · have h2 : ((M.length : Int) == ((M.length / 2 : Nat) : Int)) = false := by simp; omega
    rw [h2]
    cases hs : sameB (viewF (fL M) M.length o) (viewF (fL (M.take (M.length / 2))) (M.length / 2 : Nat) o) (M.length : Int) ((M.length / 2 : Nat) : Int) with
    | false => rfl
    | true => exact absurd ((sameB_iff _ _ _ _).1 hs).2 (by omega)
set_option maxRecDepth 100000 in
set_option maxHeartbeats 8000000 in
theorem alikes_walk (A : Option Addr) (n c : Nat) (L : List S25) (B2 : Option Addr) (q bc : Nat) (vs : List Int) (o p : Int) (w : World) (hr : k25.C w A n L) (hc : n ≤ c) (hw : ∀ x ∈ L, OkC x) (hrv : (Kd.int .i32).C w B2 q vs) (hcv : q ≤ bc) (hbv : ∀ x ∈ vs, -2147483648 ≤ x ∧ x ≤ 2147483647) (hO : I64 o) (hP : I64 p) :
    Calls Try.prog 6 #[.slice A n c, .slice B2 q bc, .int .i64 o, .int .i64 p] w fun e w' => e = .returned (.bool true) ∧ Below w.heap.size w w' := by
  have HW := Aside0.mk hw
  have HRV := Aside0.mk hrv
  have HQL := Aside0.mk (And.intro hrv.1 hrv.2.1)
  clear hw hrv hcv hbv hO hP
  have HR := Aside0.mk hr
  have HCAP := Aside0.mk hc
  have hz := zero_board
  have HI := fun f m => Aside0.mk (board_info f m)
  have HO := fun f m => Aside0.mk (boardC_one f m)
  clear hr hc
  go_enter Try.func6, Try.ntmps6
  go_wp2_with fail
  refine (awake_any _).mono ?_
  rintro e w1 ⟨rfl, hb1⟩
  have HP1 := Aside0.mk ((Hp.start w).call hb1)
  have HR1 := Aside0.mk (Kd.C_below HR.out hb1)
  clear hb1 HR
  go_wp2_with fail
  refine (few_any _ _ _ L _ HR1.out HCAP.out).mono ?_
  rintro e w2 ⟨v2, rfl, hv2, hb2⟩
  have h48 : (L.take 48).length ≤ 48 := List.length_take_le _ _
  obtain ⟨M, hM⟩ : ∃ M, L.take 48 = M := ⟨_, rfl⟩
  rw [hM] at hv2 h48
  have HM := Aside0.mk hM
  obtain ⟨m, hm⟩ : ∃ m, M.length = m := ⟨_, rfl⟩
  obtain ⟨Q, d, hv, hd, hC⟩ := Kd.R_reads hv2
  rw [hm] at hv hd hC h48
  subst hv
  have HP2 := Aside0.mk (HP1.out.row hb2 hv2)
  have HC2 := Aside0.mk hC
  have HMD := Aside0.mk hd
  have HML := Aside0.mk hm
  have H48 := Aside0.mk h48
  clear hb2 hv2 hd hC hM hm HP1 HR1 HCAP
  have HOK : Aside0 (∀ x ∈ M, OkC x) := ⟨fun x hx => HW.out x (by rw [← HM.out] at hx; exact List.mem_of_mem_take hx)⟩
  clear HW
  go_wp2_with fail
  refine (few_any Q m d M _ HC2.out HMD.out).mono ?_
  rintro e w3 ⟨v3, rfl, hv3, hb3⟩
  rw [List.take_of_length_le (by rw [HML.out]; exact H48.out)] at hv3
  obtain ⟨f, hf⟩ : ∃ f, fL M = f := ⟨_, rfl⟩
  have HF := Aside0.mk hf
  have HP3 := Aside0.mk ((HP2.out.call hb3).drop (F' := [fun X => k25.R 25 X w.heap.size (fun _ => True) (.slice Q m d) M]) (fun φ h => by rw [List.mem_singleton.1 h]; exact List.mem_cons_self))
  clear hf
  have hq64 : (q : Int) ≤ 9223372036854775807 := by have := HQL.out.2; omega
  rcases cur_of_R hv3 with ⟨hM0, rfl⟩ | ⟨g, dm, cur, rfl, hg1, hg2, hg3, hcu⟩
  · have hm0 : m = 0 := by rw [← HML.out, hM0]; rfl
    rw [show (Value.slice none 0 0) = Value.slice none m 0 by rw [hm0]]
    have HM0 := Aside0.mk (show m ≤ 0 by omega)
    have hmle : ¬ (0 : Int) < m := by omega
    have d0 : decide ((0 : Int) < m) = false := decide_eq_false hmle
    have d0' : decide (0 < m) = false := decide_eq_false (by omega)
    have HPz := Aside0.mk (HP3.out.always (fun X => k25.C X none m (listF (altF f vs o m) m)) (fun W' => by rw [hm0]; exact Kd.C_nil _ _))
    clear hM0 hv3 hb3 HP2 HC2 HP3 hm0
    go_wp2_with fail
    go_loopw [25] (fun v25 wr => v25 = .int .i64 0 ∧ Aside0 (Hp w.heap.size w wr [] [fun X => k25.C X none m (listF (altF f vs o m) m), fun X => k25.R 25 X w.heap.size (fun _ => True) (.slice Q m d) M])) (fun _ _ => 0)
    case atStart => exact ⟨rfl, HPz⟩
    case round =>
      clear HPz
      obtain ⟨rfl, HPz⟩ := hrel
      obtain ⟨h, hh⟩ : ∃ h, altF f vs o m = h := ⟨_, rfl⟩
      rw [hh] at HPz
      have HH := Aside0.mk hh
      have HSZ := Aside0.mk (show m ≤ 48 from H48.out)
      clear hh
      have e1 : fL (listF h m) = h := fL_listF h m (fun j hj => by rw [← HH.out]; unfold altF; rw [if_neg (fun hh => hj hh.1), ← HF.out]; exact fL_out (by rw [HML.out]; exact hj))
      have HE1 := Aside0.mk e1
      clear e1
      have HCA := Aside0.mk (Ru_C (HPz.out.fact (i := 1) rfl)).2.2
      go_wp2_with fail
      refine (new_any Q m d M _ HCA.out HMD.out H48.out).mono ?_
      rintro e w5 ⟨rfl, hb5⟩
      have HP5 := Aside0.mk (HPz.out.call hb5)
      rw [HF.out]
      clear hb5 HPz HCA
      have HZ := Aside0.mk (blk_new w5 (.cells (boardC (fun _ => z25) 0) 30))
      have HP6 := Aside0.mk ((HP5.out.alloc (.cells (boardC (fun _ => z25) 0) 30)).setRow (i := 0) rfl (boardC f m))
      clear HP5
      go_wp2_with (first | (refine wpList_store_row rfl 30 (.tmp 11) (.tmp 54) rfl (w5.heap.size) (boardC f m) rfl rfl 30 _ HZ.out (HI _ _).out (by rw [boardC_size, boardC_size]) (HO _ _).out ?_))
      clear HZ
      generalize (w5.alloc (.cells (boardC (fun _ => z25) 0) 30)).setRow w5.heap.size (boardC f m) = w6 at *
      generalize w5.heap.size = ga at *
      have HCB : Aside0 (k25.C w6 none m (listF h m)) := ⟨HP6.out.fact (i := 0) rfl⟩
      refine (new_any none m 0 (listF h m) _ HCB.out HM0.out H48.out).mono ?_
      rintro e w7 ⟨rfl, hb7⟩
      have HP7 := Aside0.mk (HP6.out.call hb7)
      rw [HE1.out]
      clear hb7 HP6 HCB
      obtain ⟨i0, hi0, _⟩ := info_parts cell_full
      obtain ⟨mh, hmh⟩ : ∃ mh : Nat, m / 2 = mh := ⟨_, rfl⟩
      have hcut := cut_to (P := Try.prog) 27 25 .i64 Try.underlying27 hi0 Q m d (mh : Int) (by omega) (by omega) HMD.out
      rw [Int.toNat_natCast] at hcut
      have hq2 : Int.tdiv (m : Int) 2 = (mh : Int) := by rw [Int.tdiv_eq_ediv_of_nonneg (by omega)]; omega
      have hq3 : (m : Int) / 2 = (mh : Int) := by omega
      have HQ2 := Aside0.mk (And.intro hq2 hq3)
      have HMQ := Aside0.mk hmh
      have hml1 : (mh : Int) ≤ m := by omega
      have hml0 : (0 : Int) ≤ mh := by omega
      clear hi0 hmh
      have HZ := Aside0.mk (blk_new w7 (.cells (boardC (fun _ => z25) 0) 30))
      have HP8 := Aside0.mk ((HP7.out.alloc (.cells (boardC (fun _ => z25) 0) 30)).setRow (i := 0) rfl (boardC h m))
      clear HP7
      go_wp2_with (first | (refine wpList_store_row rfl 30 (.tmp 13) (.tmp 59) rfl (w7.heap.size) (boardC h m) rfl rfl 30 _ HZ.out (HI _ _).out (by rw [boardC_size, boardC_size]) (HO _ _).out ?_))
      clear HZ
      generalize (w7.alloc (.cells (boardC (fun _ => z25) 0) 30)).setRow w7.heap.size (boardC h m) = w8 at *
      generalize w7.heap.size = gb at *
      clear hcut hq2 hq3 hml1 hml0
      have HCC := Aside0.mk (Ru_C (HP8.out.fact (i := 1) rfl)).2.2
      have htl : (M.take mh).length = mh := by rw [List.length_take, HML.out]; have := HMQ.out; omega
      have HCT : Aside0 (k25.C w8 Q mh (M.take mh)) := ⟨by
        have h1 := HCC.out
        rw [← HML.out] at h1
        have h2 := Kd.C_take (m := mh) h1 (by rw [HML.out]; have := HMQ.out; omega)
        rwa [htl] at h2⟩
      have HMH : Aside0 (mh ≤ 48) := ⟨by have := H48.out; have := HMQ.out; omega⟩
      have KC := Aside0.mk (new_any Q mh d (M.take mh) _ HCT.out (by have := HMD.out; have := HMQ.out; omega) HMH.out)
      obtain ⟨fc, hfc⟩ : ∃ fc, fL (M.take mh) = fc := ⟨_, rfl⟩
      rw [hfc] at KC
      have hha := half_alike M o
      rw [HML.out, HF.out, HMQ.out, hfc] at hha
      have HHA := Aside0.mk hha
      clear HCC htl HCT hfc hha
      refine KC.out.mono ?_
      rintro e w9 ⟨rfl, hb9⟩
      have HP9 := Aside0.mk (HP8.out.call hb9)
      clear hb9 HP8 KC
      have HZ := Aside0.mk (blk_new w9 (.cells (boardC (fun _ => z25) 0) 30))
      have HP10 := Aside0.mk ((HP9.out.alloc (.cells (boardC (fun _ => z25) 0) 30)).setRow (i := 0) rfl (boardC fc mh))
      clear HP9
      go_wp2_with (first | (refine wpList_store_row rfl 30 (.tmp 15) (.tmp 68) rfl (w9.heap.size) (boardC fc mh) rfl rfl 30 _ HZ.out (HI _ _).out (by rw [boardC_size, boardC_size]) (HO _ _).out ?_))
      clear HZ
      generalize (w9.alloc (.cells (boardC (fun _ => z25) 0) 30)).setRow w9.heap.size (boardC fc mh) = w10 at *
      generalize w9.heap.size = gc at *
      have eM : listF f m = M := by rw [← HF.out, ← HML.out, listF_fL]
      have hOK : ∀ i, i < m → U32 (f i).f1 := fun i hi => by
        have hiM : i < M.length := by rw [HML.out]; exact hi
        rw [← HF.out, fL_get hiM]; exact (HOK.out _ (List.getElem_mem hiM)).u32
      have hOKh : ∀ i, i < m → U32 (h i).f1 := fun i hi => by rw [← HH.out, altF_f1]; exact hOK i hi
      have hVo : ∀ i, i < m → viewF h m o i = viewF f m o i := fun i hi => by rw [← HH.out]; exact altF_view f vs o m i hi
      have hout : ∀ i, ¬ i < m → f i = h i := fun i hi => by rw [← HH.out]; unfold altF; rw [if_neg (fun hh => hi hh.1)]
      have E1 : sameB (viewF f m o) (viewF h m o) m m = true := (sameB_iff _ _ _ _).2 ⟨fun j _ => by
        by_cases hj : j < m
        · exact (hVo j hj).symm
        · rw [view_out _ _ _ _ hj, view_out _ _ _ _ hj, hout j hj], rfl⟩
      have E2 := same_lists (viewF f m p) (viewF h m p) m H48.out (fun j hj => by rw [view_out _ _ _ _ hj, view_out _ _ _ _ hj, hout j hj])
      rw [← toR_view, ← toR_view, eM] at E2
      have E3 : sumB true (listF (viewF h m o) m) = sumB true (listF (viewF f m o) m) := by rw [listF_congr hVo]
      have E4 : sumB false (listF (viewF h m p) m) = sumB false (listF f m) := by
        unfold sumB
        rw [bytes_labels (M := listF f m)]
        unfold listF
        rw [List.map_map, List.map_map]
        refine List.map_congr_left fun j _ => ?_
        simp only [Function.comp]
        rw [view_f1, ← HH.out, altF_f1]
      have KHA := Aside0.mk (fun X : World => hash_any (viewF f m o) m X H48.out (fun i hi => by rw [view_f1]; exact hOK i hi))
      have KHB := Aside0.mk (fun X : World => hash_any (viewF h m o) m X H48.out (fun i hi => by rw [view_f1]; exact hOKh i hi))
      have KLA := Aside0.mk (fun X : World => labels_any f m X H48.out hOK)
      have KLB := Aside0.mk (fun X : World => labels_any (viewF h m p) m X H48.out (fun i hi => by rw [view_f1]; exact hOKh i hi))
      rw [E3] at KHB
      rw [E4] at KLB
      generalize sumB true (listF (viewF f m o) m) = hA at *
      generalize sumB false (listF f m) = lA at *
      have KA1 := Aside0.mk (fun X : World => alike_any f h m m o X H48.out H48.out)
      rw [E1] at KA1
      have KA2 := Aside0.mk (fun X : World => alike_any f h m m p X H48.out H48.out)
      have KA3 := Aside0.mk (fun X : World => alike_any f fc m mh o X H48.out HMH.out)
      rw [HHA.out] at KA3
      have hU1 : ∀ x ∈ M.map toR, U32 x.f1 := fun x hx => by
        obtain ⟨y, hy, rfl⟩ := List.mem_map.1 hx
        exact (HOK.out y hy).u32
      have hU2 : ∀ x ∈ (listF h m).map toR, U32 x.f1 := fun x hx => by
        obtain ⟨y, hy, rfl⟩ := List.mem_map.1 hx
        unfold listF at hy
        obtain ⟨i, hi, rfl⟩ := List.mem_map.1 hy
        exact hOKh i (List.mem_range.1 hi)
      have hX1 : ((M.map toR).map (viewR p)).length = m := by simp [HML.out]
      have hX2 : (((listF h m).map toR).map (viewR p)).length = m := by simp [listF_length]
      have HUU := Aside0.mk (And.intro hU1 (And.intro hU2 (And.intro hX1 hX2)))
      have HE1' := Aside0.mk E1
      have HE2 := Aside0.mk E2
      obtain ⟨β, hβ⟩ : ∃ β, sameB (viewF f m p) (viewF h m p) m m = β := ⟨_, rfl⟩
      rw [hβ] at KA2 HE2
      obtain ⟨δ, hδ⟩ : ∃ δ, ((m : Int) == (mh : Int)) = δ := ⟨_, rfl⟩
      rw [hδ] at KA3
      have HDD := Aside0.mk hδ
      clear E1 E2 E3 E4 eM hOK hOKh hVo hout hU1 hU2 hX1 hX2 hβ hδ
      go_wp2_with fail
      refine region_grown (W := w10)
        [fun (w : World) (v : Value) => v = .agg (boardC f m),
   fun (w : World) (v : Value) => v = .agg (boardC h m),
   fun (w : World) (v : Value) => v = .int .i64 o,
   fun (w : World) (v : Value) => v = .bool true,
   fun (w : World) (v : Value) => v = .bool true,
   fun (w : World) (v : Value) => v = .agg (boardC f m),
   fun (w : World) (v : Value) => v = .agg (boardC h m),
   fun (w : World) (v : Value) => v = .int .i64 p,
   fun (w : World) (v : Value) => v = .bool β,
   fun (w : World) (v : Value) => v = .slice Q m d,
   fun (w : World) (v : Value) => ∃ A c, v = .slice A m c ∧ m ≤ c ∧ k52.C w A m (M.map toR),
   fun (w : World) (v : Value) => v = .int .i64 p,
   fun (w : World) (v : Value) => ∃ A c, v = .slice A m c ∧ m ≤ c ∧ k52.C w A m ((M.map toR).map (viewR p)),
   fun (w : World) (v : Value) => v = .slice none m 0,
   fun (w : World) (v : Value) => ∃ A c, v = .slice A m c ∧ m ≤ c ∧ k52.C w A m ((listF h m).map toR),
   fun (w : World) (v : Value) => v = .int .i64 p,
   fun (w : World) (v : Value) => ∃ A c, v = .slice A m c ∧ m ≤ c ∧ k52.C w A m (((listF h m).map toR).map (viewR p)),
   fun (w : World) (v : Value) => v = .bool β,
   fun (w : World) (v : Value) => v = .bool true,
   fun (w : World) (v : Value) => v = .bool true,
   fun (w : World) (v : Value) => v = .bool true,
   fun (w : World) (v : Value) => v = .agg (boardC f m),
   fun (w : World) (v : Value) => v = .int .i64 o,
   fun (w : World) (v : Value) => v = .agg (boardC (viewF f m o) m),
   fun (w : World) (v : Value) => v = .int .i64 o,
   fun (w : World) (v : Value) => v = .agg (boardC (viewF (viewF f m o) m o) m),
   fun (w : World) (v : Value) => v = .agg (boardC f m),
   fun (w : World) (v : Value) => v = .int .i64 o,
   fun (w : World) (v : Value) => v = .agg (boardC (viewF f m o) m),
   fun (w : World) (v : Value) => v = .bool true,
   fun (w : World) (v : Value) => v = .bool true,
   fun (w : World) (v : Value) => v = .bool true,
   fun (w : World) (v : Value) => v = .agg (boardC f m),
   fun (w : World) (v : Value) => v = .int .i64 o,
   fun (w : World) (v : Value) => v = .agg (boardC (viewF f m o) m),
   fun (w : World) (v : Value) => v = .agg (boardC h m),
   fun (w : World) (v : Value) => v = .int .i64 o,
   fun (w : World) (v : Value) => v = .agg (boardC (viewF h m o) m),
   fun (w : World) (v : Value) => v = .bool true,
   fun (w : World) (v : Value) => v = .bool true,
   fun (w : World) (v : Value) => v = .bool true,
   fun (w : World) (v : Value) => v = .agg (boardC f m),
   fun (w : World) (v : Value) => v = .int .i64 o,
   fun (w : World) (v : Value) => v = .agg (boardC (viewF f m o) m),
   fun (w : World) (v : Value) => v = .int .u32 hA,
   fun (w : World) (v : Value) => v = .agg (boardC h m),
   fun (w : World) (v : Value) => v = .int .i64 o,
   fun (w : World) (v : Value) => v = .agg (boardC (viewF h m o) m),
   fun (w : World) (v : Value) => v = .int .u32 hA,
   fun (w : World) (v : Value) => v = .bool true,
   fun (w : World) (v : Value) => v = .bool true,
   fun (w : World) (v : Value) => v = .bool true,
   fun (w : World) (v : Value) => v = .agg (boardC f m),
   fun (w : World) (v : Value) => v = .agg (boardC fc mh),
   fun (w : World) (v : Value) => v = .int .i64 o,
   fun (w : World) (v : Value) => v = .bool δ,
   fun (w : World) (v : Value) => v = .slice Q m d,
   fun (w : World) (v : Value) => v = .int .i64 m,
   fun (w : World) (v : Value) => v = .slice Q m d,
   fun (w : World) (v : Value) => v = .int .i64 m,
   fun (w : World) (v : Value) => v = .int .i64 mh,
   fun (w : World) (v : Value) => v = .bool δ,
   fun (w : World) (v : Value) => v = .bool true,
   fun (w : World) (v : Value) => v = .bool true,
   fun (w : World) (v : Value) => v = .bool true,
   fun (w : World) (v : Value) => v = .agg (boardC f m),
   fun (w : World) (v : Value) => v = .int .u32 lA,
   fun (w : World) (v : Value) => v = .agg (boardC h m),
   fun (w : World) (v : Value) => v = .int .i64 p,
   fun (w : World) (v : Value) => v = .agg (boardC (viewF h m p) m),
   fun (w : World) (v : Value) => v = .int .u32 lA,
   fun (w : World) (v : Value) => v = .bool true,
   fun (w : World) (v : Value) => v = .bool true,
   fun (w : World) (v : Value) => v = .bool true]
        (fun j => if j = 4 then some true else if j = 20 then some true else if j = 31 then some true else if j = 40 then some true else if j = 51 then some true else if j = 64 then some true else none)
        [(0, some 70), (1, some 71), (2, some 72), (3, some 73), (4, some 74), (5, some 75), (6, some 76), (7, some 77), (8, some 78), (9, some 79), (10, some 80), (11, some 81), (12, some 82), (13, some 83), (14, some 84), (15, some 85), (16, some 86), (17, some 87), (18, some 88), (19, some 89), (20, some 90), (21, some 91), (22, some 92), (23, some 93), (24, some 94), (25, some 95), (26, some 96), (27, some 97), (28, some 98), (29, some 99), (30, some 100), (31, some 101), (32, some 102), (33, some 103), (34, some 104), (35, some 105), (36, some 106), (37, some 107), (38, some 108), (39, some 109), (40, some 110), (41, some 111), (42, some 112), (43, some 113), (44, some 114), (45, some 115), (46, some 116), (47, some 117), (48, some 118), (49, some 119), (50, some 120), (51, some 121), (52, some 122), (53, some 123), (54, some 124), (55, some 125), (56, some 126), (57, some 127), (58, some 128), (59, some 129), (60, some 130), (61, some 131), (62, some 132), (63, some 133), (64, some 134), (65, some 135), (66, some 136), (67, some 137), (68, some 138), (69, some 139), (70, some 140), (71, some 141), (72, some 142), (73, some 8)]
        [4, 20, 31, 40, 51, 64]
        (by kernel_rfl) (by kernel_rfl) (by kernel_rfl) (by kernel_rfl) ?r14_1g ?r14_1s ⟨?r14_1o0, ?r14_1o1, ?r14_1o2, ?r14_1o3, ?r14_1o4, ?r14_1o5, ?r14_1o6, ?r14_1o7, ?r14_1o8, ?r14_1o9, ?r14_1o10, ?r14_1o11, ?r14_1o12, ?r14_1o13, ?r14_1o14, ?r14_1o15, ?r14_1o16, ?r14_1o17, ?r14_1o18, ?r14_1o19, ?r14_1o20, ?r14_1o21, ?r14_1o22, ?r14_1o23, ?r14_1o24, ?r14_1o25, ?r14_1o26, ?r14_1o27, ?r14_1o28, ?r14_1o29, ?r14_1o30, ?r14_1o31, ?r14_1o32, ?r14_1o33, ?r14_1o34, ?r14_1o35, ?r14_1o36, ?r14_1o37, ?r14_1o38, ?r14_1o39, ?r14_1o40, ?r14_1o41, ?r14_1o42, ?r14_1o43, ?r14_1o44, ?r14_1o45, ?r14_1o46, ?r14_1o47, ?r14_1o48, ?r14_1o49, ?r14_1o50, ?r14_1o51, ?r14_1o52, ?r14_1o53, ?r14_1o54, ?r14_1o55, ?r14_1o56, ?r14_1o57, ?r14_1o58, ?r14_1o59, ?r14_1o60, ?r14_1o61, ?r14_1o62, ?r14_1o63, ?r14_1o64, ?r14_1o65, ?r14_1o66, ?r14_1o67, ?r14_1o68, ?r14_1o69, ?r14_1o70, ?r14_1o71, ?r14_1o72, ?r14_1o73, trivial⟩ ?r14_1e
      case r14_1g =>
        intro j hj w v hv
        simp only [List.mem_cons, List.not_mem_nil, or_false] at hj
        rcases hj with rfl | rfl | rfl | rfl | rfl | rfl
        · have hv' : v = .bool true := hv; rw [hv']; rfl
        · have hv' : v = .bool true := hv; rw [hv']; rfl
        · have hv' : v = .bool true := hv; rw [hv']; rfl
        · have hv' : v = .bool true := hv; rw [hv']; rfl
        · have hv' : v = .bool true := hv; rw [hv']; rfl
        · have hv' : v = .bool true := hv; rw [hv']; rfl
      case r14_1s =>
        refine ⟨(fun w w' v hb h => h), (fun w w' v hb h => h), (fun w w' v hb h => h), (fun w w' v hb h => h), (fun w w' v hb h => h), (fun w w' v hb h => h), (fun w w' v hb h => h), (fun w w' v hb h => h), (fun w w' v hb h => h), (fun w w' v hb h => h), (fun w w' v hb h => let ⟨A, c, h1, h2, h3⟩ := h; ⟨A, c, h1, h2, Kd.C_below h3 hb⟩), (fun w w' v hb h => h), (fun w w' v hb h => let ⟨A, c, h1, h2, h3⟩ := h; ⟨A, c, h1, h2, Kd.C_below h3 hb⟩), (fun w w' v hb h => h), (fun w w' v hb h => let ⟨A, c, h1, h2, h3⟩ := h; ⟨A, c, h1, h2, Kd.C_below h3 hb⟩), (fun w w' v hb h => h), (fun w w' v hb h => let ⟨A, c, h1, h2, h3⟩ := h; ⟨A, c, h1, h2, Kd.C_below h3 hb⟩), (fun w w' v hb h => h), (fun w w' v hb h => h), (fun w w' v hb h => h), (fun w w' v hb h => h), (fun w w' v hb h => h), (fun w w' v hb h => h), (fun w w' v hb h => h), (fun w w' v hb h => h), (fun w w' v hb h => h), (fun w w' v hb h => h), (fun w w' v hb h => h), (fun w w' v hb h => h), (fun w w' v hb h => h), (fun w w' v hb h => h), (fun w w' v hb h => h), (fun w w' v hb h => h), (fun w w' v hb h => h), (fun w w' v hb h => h), (fun w w' v hb h => h), (fun w w' v hb h => h), (fun w w' v hb h => h), (fun w w' v hb h => h), (fun w w' v hb h => h), (fun w w' v hb h => h), (fun w w' v hb h => h), (fun w w' v hb h => h), (fun w w' v hb h => h), (fun w w' v hb h => h), (fun w w' v hb h => h), (fun w w' v hb h => h), (fun w w' v hb h => h), (fun w w' v hb h => h), (fun w w' v hb h => h), (fun w w' v hb h => h), (fun w w' v hb h => h), (fun w w' v hb h => h), (fun w w' v hb h => h), (fun w w' v hb h => h), (fun w w' v hb h => h), (fun w w' v hb h => h), (fun w w' v hb h => h), (fun w w' v hb h => h), (fun w w' v hb h => h), (fun w w' v hb h => h), (fun w w' v hb h => h), (fun w w' v hb h => h), (fun w w' v hb h => h), (fun w w' v hb h => h), (fun w w' v hb h => h), (fun w w' v hb h => h), (fun w w' v hb h => h), (fun w w' v hb h => h), (fun w w' v hb h => h), (fun w w' v hb h => h), (fun w w' v hb h => h), (fun w w' v hb h => h), (fun w w' v hb h => h), trivial⟩
      case r14_1o0 =>
        intro vs w hb hV
        rw [if_pos (by kernel_rfl)]
        generalize hρ : rho _ _ _ vs = ρ
        have e11 : ρ (.tmp 11) = .pointer (some ⟨ga, 0, none⟩) := by rw [← hρ]; kernel_rfl
        clear hρ hV
        exact runs_load 30 (.tmp 11) rfl ga e11 30 (boardC f m) (0, 0) _ (((hb.block ga (blk_lt (HP10.out.get (i := 2) rfl))).trans (HP10.out.get (i := 2) rfl))) Try.underlying30 rfl (HI _ _).out ⟨Below.refl _ _, rfl⟩
      case r14_1o1 =>
        intro vs w hb hV
        rw [if_pos (by kernel_rfl)]
        generalize hρ : rho _ _ _ vs = ρ
        have e13 : ρ (.tmp 13) = .pointer (some ⟨gb, 0, none⟩) := by rw [← hρ]; kernel_rfl
        clear hρ hV
        exact runs_load 30 (.tmp 13) rfl gb e13 30 (boardC h m) (0, 0) _ (((hb.block gb (blk_lt (HP10.out.get (i := 1) rfl))).trans (HP10.out.get (i := 1) rfl))) Try.underlying30 rfl (HI _ _).out ⟨Below.refl _ _, rfl⟩
      case r14_1o2 =>
        intro vs w hb hV
        rw [if_pos (by kernel_rfl)]
        generalize hρ : rho _ _ _ vs = ρ
        have e2 : ρ (.tmp 2) = .int .i64 o := by rw [← hρ]; kernel_rfl
        clear hρ hV
        refine runs_val (v := .int .i64 o) (w' := w) ?_ ⟨Below.refl _ _, rfl⟩
        go_simp <;> (first | exact IntWalk.u64_in _ (by omega) | exact IntWalk.u32_in _ (by omega) | exact IntWalk.u16_in _ (by omega) | exact IntWalk.u8_in _ (by omega) | exact IntWalk.i64_in _ (by omega) | skip)
      case r14_1o3 =>
        intro vs w hb hV
        rw [if_pos (by kernel_rfl)]
        generalize hρ : rho _ _ _ vs = ρ
        have d70 : (vs 0) = .agg (boardC f m) := hV 0 (by kernel_rfl)
        have e70 : ρ (.tmp 70) = vs 0 := by rw [← hρ]; kernel_rfl
        rw [d70] at e70; clear d70
        have d71 : (vs 1) = .agg (boardC h m) := hV 1 (by kernel_rfl)
        have e71 : ρ (.tmp 71) = vs 1 := by rw [← hρ]; kernel_rfl
        rw [d71] at e71; clear d71
        have d72 : (vs 2) = .int .i64 o := hV 2 (by kernel_rfl)
        have e72 : ρ (.tmp 72) = vs 2 := by rw [← hρ]; kernel_rfl
        rw [d72] at e72; clear d72
        have ef24 : ρ (.func 24) = .func (.func 24) #[] #[] := by rw [← hρ]; rfl
        clear hρ hV
        refine runs_call (f := 24) (args := #[.agg (boardC f m), .agg (boardC h m), .int .i64 o]) (w' := w) ?_ ?_
        · go_simp
        · refine (KA1.out _).mono ?_
          rintro e w5 ⟨rfl, hb5⟩
          exact ⟨_, rfl, hb5, rfl⟩
      case r14_1o4 =>
        intro vs w hb hV
        rw [if_pos (by kernel_rfl)]
        generalize hρ : rho _ _ _ vs = ρ
        have d73 : (vs 3) = .bool true := hV 3 (by kernel_rfl)
        have e73 : ρ (.tmp 73) = vs 3 := by rw [← hρ]; kernel_rfl
        clear hρ hV
        refine runs_val (v := vs 3) (w' := w) ?_ ⟨Below.refl _ _, d73⟩
        go_simp
      case r14_1o5 =>
        intro vs w hb hV
        rw [if_pos (by kernel_rfl)]
        generalize hρ : rho _ _ _ vs = ρ
        have e11 : ρ (.tmp 11) = .pointer (some ⟨ga, 0, none⟩) := by rw [← hρ]; kernel_rfl
        clear hρ hV
        exact runs_load 30 (.tmp 11) rfl ga e11 30 (boardC f m) (0, 0) _ (((hb.block ga (blk_lt (HP10.out.get (i := 2) rfl))).trans (HP10.out.get (i := 2) rfl))) Try.underlying30 rfl (HI _ _).out ⟨Below.refl _ _, rfl⟩
      case r14_1o6 =>
        intro vs w hb hV
        rw [if_pos (by kernel_rfl)]
        generalize hρ : rho _ _ _ vs = ρ
        have e13 : ρ (.tmp 13) = .pointer (some ⟨gb, 0, none⟩) := by rw [← hρ]; kernel_rfl
        clear hρ hV
        exact runs_load 30 (.tmp 13) rfl gb e13 30 (boardC h m) (0, 0) _ (((hb.block gb (blk_lt (HP10.out.get (i := 1) rfl))).trans (HP10.out.get (i := 1) rfl))) Try.underlying30 rfl (HI _ _).out ⟨Below.refl _ _, rfl⟩
      case r14_1o7 =>
        intro vs w hb hV
        rw [if_pos (by kernel_rfl)]
        generalize hρ : rho _ _ _ vs = ρ
        have e3 : ρ (.tmp 3) = .int .i64 p := by rw [← hρ]; kernel_rfl
        clear hρ hV
        refine runs_val (v := .int .i64 p) (w' := w) ?_ ⟨Below.refl _ _, rfl⟩
        go_simp <;> (first | exact IntWalk.u64_in _ (by omega) | exact IntWalk.u32_in _ (by omega) | exact IntWalk.u16_in _ (by omega) | exact IntWalk.u8_in _ (by omega) | exact IntWalk.i64_in _ (by omega) | skip)
      case r14_1o8 =>
        intro vs w hb hV
        rw [if_pos (by kernel_rfl)]
        generalize hρ : rho _ _ _ vs = ρ
        have d75 : (vs 5) = .agg (boardC f m) := hV 5 (by kernel_rfl)
        have e75 : ρ (.tmp 75) = vs 5 := by rw [← hρ]; kernel_rfl
        rw [d75] at e75; clear d75
        have d76 : (vs 6) = .agg (boardC h m) := hV 6 (by kernel_rfl)
        have e76 : ρ (.tmp 76) = vs 6 := by rw [← hρ]; kernel_rfl
        rw [d76] at e76; clear d76
        have d77 : (vs 7) = .int .i64 p := hV 7 (by kernel_rfl)
        have e77 : ρ (.tmp 77) = vs 7 := by rw [← hρ]; kernel_rfl
        rw [d77] at e77; clear d77
        have ef24 : ρ (.func 24) = .func (.func 24) #[] #[] := by rw [← hρ]; rfl
        clear hρ hV
        refine runs_call (f := 24) (args := #[.agg (boardC f m), .agg (boardC h m), .int .i64 p]) (w' := w) ?_ ?_
        · go_simp
        · refine (KA2.out _).mono ?_
          rintro e w5 ⟨rfl, hb5⟩
          exact ⟨_, rfl, hb5, rfl⟩
      case r14_1o9 =>
        intro vs w hb hV
        rw [if_pos (by kernel_rfl)]
        generalize hρ : rho _ _ _ vs = ρ
        have e0 : ρ (.tmp 0) = .slice Q m d := by rw [← hρ]; kernel_rfl
        clear hρ hV
        refine runs_val (v := .slice Q m d) (w' := w) ?_ ⟨Below.refl _ _, rfl⟩
        go_simp <;> (first | exact IntWalk.u64_in _ (by omega) | exact IntWalk.u32_in _ (by omega) | exact IntWalk.u16_in _ (by omega) | exact IntWalk.u8_in _ (by omega) | exact IntWalk.i64_in _ (by omega) | skip)
      case r14_1o10 =>
        intro vs w hb hV
        rw [if_pos (by kernel_rfl)]
        generalize hρ : rho _ _ _ vs = ρ
        have d79 : (vs 9) = .slice Q m d := hV 9 (by kernel_rfl)
        have e79 : ρ (.tmp 79) = vs 9 := by rw [← hρ]; kernel_rfl
        rw [d79] at e79; clear d79
        have ef20 : ρ (.func 20) = .func (.func 20) #[] #[] := by rw [← hρ]; rfl
        clear hρ hV
        refine runs_call (f := 20) (args := #[.slice Q m d]) (w' := w) ?_ ?_
        · go_simp
        · refine (own_any Q m d M _ (Kd.C_below (Ru_C (HP10.out.fact (i := 1) rfl)).2.2 hb) HMD.out (by have := H48.out; omega)).mono ?_
          rintro e w5 ⟨v, rfl, hv, hb5⟩
          obtain ⟨A1, c1, e1, e2, e3⟩ := Kd.R_reads hv
          rw [List.length_map, HML.out] at e1 e2 e3
          exact ⟨_, rfl, hb5, A1, c1, e1, e2, e3⟩
      case r14_1o11 =>
        intro vs w hb hV
        rw [if_pos (by kernel_rfl)]
        generalize hρ : rho _ _ _ vs = ρ
        have e3 : ρ (.tmp 3) = .int .i64 p := by rw [← hρ]; kernel_rfl
        clear hρ hV
        refine runs_val (v := .int .i64 p) (w' := w) ?_ ⟨Below.refl _ _, rfl⟩
        go_simp <;> (first | exact IntWalk.u64_in _ (by omega) | exact IntWalk.u32_in _ (by omega) | exact IntWalk.u16_in _ (by omega) | exact IntWalk.u8_in _ (by omega) | exact IntWalk.i64_in _ (by omega) | skip)
      case r14_1o12 =>
        intro vs w hb hV
        rw [if_pos (by kernel_rfl)]
        generalize hρ : rho _ _ _ vs = ρ
        have d80 : (fun (w : World) (v : Value) => ∃ A c, v = .slice A m c ∧ m ≤ c ∧ k52.C w A m (M.map toR)) w (vs 10) := hV 10 (by kernel_rfl)
        have e80 : ρ (.tmp 80) = vs 10 := by rw [← hρ]; kernel_rfl
        obtain ⟨A80, c80, h80, hc80, hC80⟩ := d80
        have d81 : (vs 11) = .int .i64 p := hV 11 (by kernel_rfl)
        have e81 : ρ (.tmp 81) = vs 11 := by rw [← hρ]; kernel_rfl
        rw [d81] at e81; clear d81
        have ef25 : ρ (.func 25) = .func (.func 25) #[] #[] := by rw [← hρ]; rfl
        clear hρ hV
        rw [h80] at e80
        refine runs_call (f := 25) (args := #[.slice A80 m c80, .int .i64 p]) (w' := w) ?_ ?_
        · go_simp
        · refine (refview_any A80 m c80 (M.map toR) p _ hC80 hc80 (by have := H48.out; omega) HUU.out.1).mono ?_
          rintro e w5 ⟨v, rfl, hv, hb5⟩
          obtain ⟨A1, c1, e1, e2, e3⟩ := Kd.R_reads hv
          rw [HUU.out.2.2.1] at e1 e2 e3
          exact ⟨_, rfl, hb5, A1, c1, e1, e2, e3⟩
      case r14_1o13 =>
        intro vs w hb hV
        rw [if_pos (by kernel_rfl)]
        generalize hρ : rho _ _ _ vs = ρ
        have e9 : ρ (.tmp 9) = .slice none m 0 := by rw [← hρ]; kernel_rfl
        clear hρ hV
        refine runs_val (v := .slice none m 0) (w' := w) ?_ ⟨Below.refl _ _, rfl⟩
        go_simp <;> (first | exact IntWalk.u64_in _ (by omega) | exact IntWalk.u32_in _ (by omega) | exact IntWalk.u16_in _ (by omega) | exact IntWalk.u8_in _ (by omega) | exact IntWalk.i64_in _ (by omega) | skip)
      case r14_1o14 =>
        intro vs w hb hV
        rw [if_pos (by kernel_rfl)]
        generalize hρ : rho _ _ _ vs = ρ
        have d83 : (vs 13) = .slice none m 0 := hV 13 (by kernel_rfl)
        have e83 : ρ (.tmp 83) = vs 13 := by rw [← hρ]; kernel_rfl
        rw [d83] at e83; clear d83
        have ef20 : ρ (.func 20) = .func (.func 20) #[] #[] := by rw [← hρ]; rfl
        clear hρ hV
        refine runs_call (f := 20) (args := #[.slice none m 0]) (w' := w) ?_ ?_
        · go_simp
        · refine (own_any none m 0 (listF h m) _ (Kd.C_below (HP10.out.fact (i := 0) rfl) hb) HM0.out (by have := H48.out; omega)).mono ?_
          rintro e w5 ⟨v, rfl, hv, hb5⟩
          obtain ⟨A1, c1, e1, e2, e3⟩ := Kd.R_reads hv
          rw [List.length_map, listF_length] at e1 e2 e3
          exact ⟨_, rfl, hb5, A1, c1, e1, e2, e3⟩
      case r14_1o15 =>
        intro vs w hb hV
        rw [if_pos (by kernel_rfl)]
        generalize hρ : rho _ _ _ vs = ρ
        have e3 : ρ (.tmp 3) = .int .i64 p := by rw [← hρ]; kernel_rfl
        clear hρ hV
        refine runs_val (v := .int .i64 p) (w' := w) ?_ ⟨Below.refl _ _, rfl⟩
        go_simp <;> (first | exact IntWalk.u64_in _ (by omega) | exact IntWalk.u32_in _ (by omega) | exact IntWalk.u16_in _ (by omega) | exact IntWalk.u8_in _ (by omega) | exact IntWalk.i64_in _ (by omega) | skip)
      case r14_1o16 =>
        intro vs w hb hV
        rw [if_pos (by kernel_rfl)]
        generalize hρ : rho _ _ _ vs = ρ
        have d84 : (fun (w : World) (v : Value) => ∃ A c, v = .slice A m c ∧ m ≤ c ∧ k52.C w A m ((listF h m).map toR)) w (vs 14) := hV 14 (by kernel_rfl)
        have e84 : ρ (.tmp 84) = vs 14 := by rw [← hρ]; kernel_rfl
        obtain ⟨A84, c84, h84, hc84, hC84⟩ := d84
        have d85 : (vs 15) = .int .i64 p := hV 15 (by kernel_rfl)
        have e85 : ρ (.tmp 85) = vs 15 := by rw [← hρ]; kernel_rfl
        rw [d85] at e85; clear d85
        have ef25 : ρ (.func 25) = .func (.func 25) #[] #[] := by rw [← hρ]; rfl
        clear hρ hV
        rw [h84] at e84
        refine runs_call (f := 25) (args := #[.slice A84 m c84, .int .i64 p]) (w' := w) ?_ ?_
        · go_simp
        · refine (refview_any A84 m c84 ((listF h m).map toR) p _ hC84 hc84 (by have := H48.out; omega) HUU.out.2.1).mono ?_
          rintro e w5 ⟨v, rfl, hv, hb5⟩
          obtain ⟨A1, c1, e1, e2, e3⟩ := Kd.R_reads hv
          rw [HUU.out.2.2.2] at e1 e2 e3
          exact ⟨_, rfl, hb5, A1, c1, e1, e2, e3⟩
      case r14_1o17 =>
        intro vs w hb hV
        rw [if_pos (by kernel_rfl)]
        generalize hρ : rho _ _ _ vs = ρ
        have d82 : (fun (w : World) (v : Value) => ∃ A c, v = .slice A m c ∧ m ≤ c ∧ k52.C w A m ((M.map toR).map (viewR p))) w (vs 12) := hV 12 (by kernel_rfl)
        have e82 : ρ (.tmp 82) = vs 12 := by rw [← hρ]; kernel_rfl
        obtain ⟨A82, c82, h82, hc82, hC82⟩ := d82
        have d86 : (fun (w : World) (v : Value) => ∃ A c, v = .slice A m c ∧ m ≤ c ∧ k52.C w A m (((listF h m).map toR).map (viewR p))) w (vs 16) := hV 16 (by kernel_rfl)
        have e86 : ρ (.tmp 86) = vs 16 := by rw [← hρ]; kernel_rfl
        obtain ⟨A86, c86, h86, hc86, hC86⟩ := d86
        have ef23 : ρ (.func 23) = .func (.func 23) #[] #[] := by rw [← hρ]; rfl
        clear hρ hV
        rw [h82] at e82
        rw [h86] at e86
        refine runs_call (f := 23) (args := #[.slice A82 m c82, .slice A86 m c86]) (w' := w) ?_ ?_
        · go_simp
        · have KQ := csame_any A82 A86 m m c82 c86 _ _ _ hC82 hC86 (by have := H48.out; omega) (by have := H48.out; omega)
          rw [← HE2.out] at KQ
          refine KQ.mono ?_
          rintro e w5 ⟨rfl, hd5⟩
          exact ⟨_, rfl, hd5.below, rfl⟩
      case r14_1o18 =>
        intro vs w hb hV
        rw [if_pos (by kernel_rfl)]
        generalize hρ : rho _ _ _ vs = ρ
        have d78 : (vs 8) = .bool β := hV 8 (by kernel_rfl)
        have e78 : ρ (.tmp 78) = vs 8 := by rw [← hρ]; kernel_rfl
        rw [d78] at e78; clear d78
        have d87 : (vs 17) = .bool β := hV 17 (by kernel_rfl)
        have e87 : ρ (.tmp 87) = vs 17 := by rw [← hρ]; kernel_rfl
        rw [d87] at e87; clear d87
        clear hρ hV
        refine runs_val (v := .bool true) (w' := w) ?_ ⟨Below.refl _ _, rfl⟩
        go_simp <;> (first | exact IntWalk.u64_in _ (by omega) | exact IntWalk.u32_in _ (by omega) | exact IntWalk.u16_in _ (by omega) | exact IntWalk.u8_in _ (by omega) | exact IntWalk.i64_in _ (by omega) | skip)
      case r14_1o19 =>
        intro vs w hb hV
        rw [if_pos (by kernel_rfl)]
        generalize hρ : rho _ _ _ vs = ρ
        have d74 : (vs 4) = .bool true := hV 4 (by kernel_rfl)
        have e74 : ρ (.tmp 74) = vs 4 := by rw [← hρ]; kernel_rfl
        rw [d74] at e74; clear d74
        have d88 : (vs 18) = .bool true := hV 18 (by kernel_rfl)
        have e88 : ρ (.tmp 88) = vs 18 := by rw [← hρ]; kernel_rfl
        rw [d88] at e88; clear d88
        have econ : ∀ v : Value, ρ (.const v) = v := fun v => by rw [← hρ]; rfl
        clear hρ hV
        refine runs_val (v := .bool true) (w' := w) ?_ ⟨Below.refl _ _, rfl⟩
        go_simp <;> (first | exact IntWalk.u64_in _ (by omega) | exact IntWalk.u32_in _ (by omega) | exact IntWalk.u16_in _ (by omega) | exact IntWalk.u8_in _ (by omega) | exact IntWalk.i64_in _ (by omega) | skip)
      case r14_1o20 =>
        intro vs w hb hV
        rw [if_pos (by kernel_rfl)]
        generalize hρ : rho _ _ _ vs = ρ
        have d89 : (vs 19) = .bool true := hV 19 (by kernel_rfl)
        have e89 : ρ (.tmp 89) = vs 19 := by rw [← hρ]; kernel_rfl
        clear hρ hV
        refine runs_val (v := vs 19) (w' := w) ?_ ⟨Below.refl _ _, d89⟩
        go_simp
      case r14_1o21 =>
        intro vs w hb hV
        rw [if_pos (by kernel_rfl)]
        generalize hρ : rho _ _ _ vs = ρ
        have e11 : ρ (.tmp 11) = .pointer (some ⟨ga, 0, none⟩) := by rw [← hρ]; kernel_rfl
        clear hρ hV
        exact runs_load 30 (.tmp 11) rfl ga e11 30 (boardC f m) (0, 0) _ (((hb.block ga (blk_lt (HP10.out.get (i := 2) rfl))).trans (HP10.out.get (i := 2) rfl))) Try.underlying30 rfl (HI _ _).out ⟨Below.refl _ _, rfl⟩
      case r14_1o22 =>
        intro vs w hb hV
        rw [if_pos (by kernel_rfl)]
        generalize hρ : rho _ _ _ vs = ρ
        have e2 : ρ (.tmp 2) = .int .i64 o := by rw [← hρ]; kernel_rfl
        clear hρ hV
        refine runs_val (v := .int .i64 o) (w' := w) ?_ ⟨Below.refl _ _, rfl⟩
        go_simp <;> (first | exact IntWalk.u64_in _ (by omega) | exact IntWalk.u32_in _ (by omega) | exact IntWalk.u16_in _ (by omega) | exact IntWalk.u8_in _ (by omega) | exact IntWalk.i64_in _ (by omega) | skip)
      case r14_1o23 =>
        intro vs w hb hV
        rw [if_pos (by kernel_rfl)]
        generalize hρ : rho _ _ _ vs = ρ
        have d91 : (vs 21) = .agg (boardC f m) := hV 21 (by kernel_rfl)
        have e91 : ρ (.tmp 91) = vs 21 := by rw [← hρ]; kernel_rfl
        rw [d91] at e91; clear d91
        have d92 : (vs 22) = .int .i64 o := hV 22 (by kernel_rfl)
        have e92 : ρ (.tmp 92) = vs 22 := by rw [← hρ]; kernel_rfl
        rw [d92] at e92; clear d92
        have ef26 : ρ (.func 26) = .func (.func 26) #[] #[] := by rw [← hρ]; rfl
        clear hρ hV
        refine runs_call (f := 26) (args := #[.agg (boardC f m), .int .i64 o]) (w' := w) ?_ ?_
        · go_simp
        · refine (view_any f m o _ H48.out).mono ?_
          rintro e w5 ⟨rfl, hb5⟩
          exact ⟨_, rfl, hb5, rfl⟩
      case r14_1o24 =>
        intro vs w hb hV
        rw [if_pos (by kernel_rfl)]
        generalize hρ : rho _ _ _ vs = ρ
        have e2 : ρ (.tmp 2) = .int .i64 o := by rw [← hρ]; kernel_rfl
        clear hρ hV
        refine runs_val (v := .int .i64 o) (w' := w) ?_ ⟨Below.refl _ _, rfl⟩
        go_simp <;> (first | exact IntWalk.u64_in _ (by omega) | exact IntWalk.u32_in _ (by omega) | exact IntWalk.u16_in _ (by omega) | exact IntWalk.u8_in _ (by omega) | exact IntWalk.i64_in _ (by omega) | skip)
      case r14_1o25 =>
        intro vs w hb hV
        rw [if_pos (by kernel_rfl)]
        generalize hρ : rho _ _ _ vs = ρ
        have d93 : (vs 23) = .agg (boardC (viewF f m o) m) := hV 23 (by kernel_rfl)
        have e93 : ρ (.tmp 93) = vs 23 := by rw [← hρ]; kernel_rfl
        rw [d93] at e93; clear d93
        have d94 : (vs 24) = .int .i64 o := hV 24 (by kernel_rfl)
        have e94 : ρ (.tmp 94) = vs 24 := by rw [← hρ]; kernel_rfl
        rw [d94] at e94; clear d94
        have ef26 : ρ (.func 26) = .func (.func 26) #[] #[] := by rw [← hρ]; rfl
        clear hρ hV
        refine runs_call (f := 26) (args := #[.agg (boardC (viewF f m o) m), .int .i64 o]) (w' := w) ?_ ?_
        · go_simp
        · refine (view_any (viewF f m o) m o _ H48.out).mono ?_
          rintro e w5 ⟨rfl, hb5⟩
          exact ⟨_, rfl, hb5, rfl⟩
      case r14_1o26 =>
        intro vs w hb hV
        rw [if_pos (by kernel_rfl)]
        generalize hρ : rho _ _ _ vs = ρ
        have e11 : ρ (.tmp 11) = .pointer (some ⟨ga, 0, none⟩) := by rw [← hρ]; kernel_rfl
        clear hρ hV
        exact runs_load 30 (.tmp 11) rfl ga e11 30 (boardC f m) (0, 0) _ (((hb.block ga (blk_lt (HP10.out.get (i := 2) rfl))).trans (HP10.out.get (i := 2) rfl))) Try.underlying30 rfl (HI _ _).out ⟨Below.refl _ _, rfl⟩
      case r14_1o27 =>
        intro vs w hb hV
        rw [if_pos (by kernel_rfl)]
        generalize hρ : rho _ _ _ vs = ρ
        have e2 : ρ (.tmp 2) = .int .i64 o := by rw [← hρ]; kernel_rfl
        clear hρ hV
        refine runs_val (v := .int .i64 o) (w' := w) ?_ ⟨Below.refl _ _, rfl⟩
        go_simp <;> (first | exact IntWalk.u64_in _ (by omega) | exact IntWalk.u32_in _ (by omega) | exact IntWalk.u16_in _ (by omega) | exact IntWalk.u8_in _ (by omega) | exact IntWalk.i64_in _ (by omega) | skip)
      case r14_1o28 =>
        intro vs w hb hV
        rw [if_pos (by kernel_rfl)]
        generalize hρ : rho _ _ _ vs = ρ
        have d96 : (vs 26) = .agg (boardC f m) := hV 26 (by kernel_rfl)
        have e96 : ρ (.tmp 96) = vs 26 := by rw [← hρ]; kernel_rfl
        rw [d96] at e96; clear d96
        have d97 : (vs 27) = .int .i64 o := hV 27 (by kernel_rfl)
        have e97 : ρ (.tmp 97) = vs 27 := by rw [← hρ]; kernel_rfl
        rw [d97] at e97; clear d97
        have ef26 : ρ (.func 26) = .func (.func 26) #[] #[] := by rw [← hρ]; rfl
        clear hρ hV
        refine runs_call (f := 26) (args := #[.agg (boardC f m), .int .i64 o]) (w' := w) ?_ ?_
        · go_simp
        · refine (view_any f m o _ H48.out).mono ?_
          rintro e w5 ⟨rfl, hb5⟩
          exact ⟨_, rfl, hb5, rfl⟩
      case r14_1o29 =>
        intro vs w hb hV
        rw [if_pos (by kernel_rfl)]
        generalize hρ : rho _ _ _ vs = ρ
        have d95 : (vs 25) = .agg (boardC (viewF (viewF f m o) m o) m) := hV 25 (by kernel_rfl)
        have e95 : ρ (.tmp 95) = vs 25 := by rw [← hρ]; kernel_rfl
        rw [d95] at e95; clear d95
        have d98 : (vs 28) = .agg (boardC (viewF f m o) m) := hV 28 (by kernel_rfl)
        have e98 : ρ (.tmp 98) = vs 28 := by rw [← hρ]; kernel_rfl
        rw [d98] at e98; clear d98
        clear hρ hV
        have hbe := board_eql (viewF (viewF f m o) m o) (viewF f m o) m m
        rw [view_twice f m o] at hbe
        have hbg := board_guard
        refine runs_val (v := .bool true) (w' := w) ?_ ⟨Below.refl _ _, rfl⟩
        go_simp
      case r14_1o30 =>
        intro vs w hb hV
        rw [if_pos (by kernel_rfl)]
        generalize hρ : rho _ _ _ vs = ρ
        have d90 : (vs 20) = .bool true := hV 20 (by kernel_rfl)
        have e90 : ρ (.tmp 90) = vs 20 := by rw [← hρ]; kernel_rfl
        rw [d90] at e90; clear d90
        have d99 : (vs 29) = .bool true := hV 29 (by kernel_rfl)
        have e99 : ρ (.tmp 99) = vs 29 := by rw [← hρ]; kernel_rfl
        rw [d99] at e99; clear d99
        have econ : ∀ v : Value, ρ (.const v) = v := fun v => by rw [← hρ]; rfl
        clear hρ hV
        refine runs_val (v := .bool true) (w' := w) ?_ ⟨Below.refl _ _, rfl⟩
        go_simp <;> (first | exact IntWalk.u64_in _ (by omega) | exact IntWalk.u32_in _ (by omega) | exact IntWalk.u16_in _ (by omega) | exact IntWalk.u8_in _ (by omega) | exact IntWalk.i64_in _ (by omega) | skip)
      case r14_1o31 =>
        intro vs w hb hV
        rw [if_pos (by kernel_rfl)]
        generalize hρ : rho _ _ _ vs = ρ
        have d100 : (vs 30) = .bool true := hV 30 (by kernel_rfl)
        have e100 : ρ (.tmp 100) = vs 30 := by rw [← hρ]; kernel_rfl
        clear hρ hV
        refine runs_val (v := vs 30) (w' := w) ?_ ⟨Below.refl _ _, d100⟩
        go_simp
      case r14_1o32 =>
        intro vs w hb hV
        rw [if_pos (by kernel_rfl)]
        generalize hρ : rho _ _ _ vs = ρ
        have e11 : ρ (.tmp 11) = .pointer (some ⟨ga, 0, none⟩) := by rw [← hρ]; kernel_rfl
        clear hρ hV
        exact runs_load 30 (.tmp 11) rfl ga e11 30 (boardC f m) (0, 0) _ (((hb.block ga (blk_lt (HP10.out.get (i := 2) rfl))).trans (HP10.out.get (i := 2) rfl))) Try.underlying30 rfl (HI _ _).out ⟨Below.refl _ _, rfl⟩
      case r14_1o33 =>
        intro vs w hb hV
        rw [if_pos (by kernel_rfl)]
        generalize hρ : rho _ _ _ vs = ρ
        have e2 : ρ (.tmp 2) = .int .i64 o := by rw [← hρ]; kernel_rfl
        clear hρ hV
        refine runs_val (v := .int .i64 o) (w' := w) ?_ ⟨Below.refl _ _, rfl⟩
        go_simp <;> (first | exact IntWalk.u64_in _ (by omega) | exact IntWalk.u32_in _ (by omega) | exact IntWalk.u16_in _ (by omega) | exact IntWalk.u8_in _ (by omega) | exact IntWalk.i64_in _ (by omega) | skip)
      case r14_1o34 =>
        intro vs w hb hV
        rw [if_pos (by kernel_rfl)]
        generalize hρ : rho _ _ _ vs = ρ
        have d102 : (vs 32) = .agg (boardC f m) := hV 32 (by kernel_rfl)
        have e102 : ρ (.tmp 102) = vs 32 := by rw [← hρ]; kernel_rfl
        rw [d102] at e102; clear d102
        have d103 : (vs 33) = .int .i64 o := hV 33 (by kernel_rfl)
        have e103 : ρ (.tmp 103) = vs 33 := by rw [← hρ]; kernel_rfl
        rw [d103] at e103; clear d103
        have ef26 : ρ (.func 26) = .func (.func 26) #[] #[] := by rw [← hρ]; rfl
        clear hρ hV
        refine runs_call (f := 26) (args := #[.agg (boardC f m), .int .i64 o]) (w' := w) ?_ ?_
        · go_simp
        · refine (view_any f m o _ H48.out).mono ?_
          rintro e w5 ⟨rfl, hb5⟩
          exact ⟨_, rfl, hb5, rfl⟩
      case r14_1o35 =>
        intro vs w hb hV
        rw [if_pos (by kernel_rfl)]
        generalize hρ : rho _ _ _ vs = ρ
        have e13 : ρ (.tmp 13) = .pointer (some ⟨gb, 0, none⟩) := by rw [← hρ]; kernel_rfl
        clear hρ hV
        exact runs_load 30 (.tmp 13) rfl gb e13 30 (boardC h m) (0, 0) _ (((hb.block gb (blk_lt (HP10.out.get (i := 1) rfl))).trans (HP10.out.get (i := 1) rfl))) Try.underlying30 rfl (HI _ _).out ⟨Below.refl _ _, rfl⟩
      case r14_1o36 =>
        intro vs w hb hV
        rw [if_pos (by kernel_rfl)]
        generalize hρ : rho _ _ _ vs = ρ
        have e2 : ρ (.tmp 2) = .int .i64 o := by rw [← hρ]; kernel_rfl
        clear hρ hV
        refine runs_val (v := .int .i64 o) (w' := w) ?_ ⟨Below.refl _ _, rfl⟩
        go_simp <;> (first | exact IntWalk.u64_in _ (by omega) | exact IntWalk.u32_in _ (by omega) | exact IntWalk.u16_in _ (by omega) | exact IntWalk.u8_in _ (by omega) | exact IntWalk.i64_in _ (by omega) | skip)
      case r14_1o37 =>
        intro vs w hb hV
        rw [if_pos (by kernel_rfl)]
        generalize hρ : rho _ _ _ vs = ρ
        have d105 : (vs 35) = .agg (boardC h m) := hV 35 (by kernel_rfl)
        have e105 : ρ (.tmp 105) = vs 35 := by rw [← hρ]; kernel_rfl
        rw [d105] at e105; clear d105
        have d106 : (vs 36) = .int .i64 o := hV 36 (by kernel_rfl)
        have e106 : ρ (.tmp 106) = vs 36 := by rw [← hρ]; kernel_rfl
        rw [d106] at e106; clear d106
        have ef26 : ρ (.func 26) = .func (.func 26) #[] #[] := by rw [← hρ]; rfl
        clear hρ hV
        refine runs_call (f := 26) (args := #[.agg (boardC h m), .int .i64 o]) (w' := w) ?_ ?_
        · go_simp
        · refine (view_any h m o _ H48.out).mono ?_
          rintro e w5 ⟨rfl, hb5⟩
          exact ⟨_, rfl, hb5, rfl⟩
      case r14_1o38 =>
        intro vs w hb hV
        rw [if_pos (by kernel_rfl)]
        generalize hρ : rho _ _ _ vs = ρ
        have d104 : (vs 34) = .agg (boardC (viewF f m o) m) := hV 34 (by kernel_rfl)
        have e104 : ρ (.tmp 104) = vs 34 := by rw [← hρ]; kernel_rfl
        rw [d104] at e104; clear d104
        have d107 : (vs 37) = .agg (boardC (viewF h m o) m) := hV 37 (by kernel_rfl)
        have e107 : ρ (.tmp 107) = vs 37 := by rw [← hρ]; kernel_rfl
        rw [d107] at e107; clear d107
        clear hρ hV
        have hbe := board_eql (viewF f m o) (viewF h m o) m m
        rw [HE1'.out] at hbe
        have hbg := board_guard
        refine runs_val (v := .bool true) (w' := w) ?_ ⟨Below.refl _ _, rfl⟩
        go_simp
      case r14_1o39 =>
        intro vs w hb hV
        rw [if_pos (by kernel_rfl)]
        generalize hρ : rho _ _ _ vs = ρ
        have d101 : (vs 31) = .bool true := hV 31 (by kernel_rfl)
        have e101 : ρ (.tmp 101) = vs 31 := by rw [← hρ]; kernel_rfl
        rw [d101] at e101; clear d101
        have d108 : (vs 38) = .bool true := hV 38 (by kernel_rfl)
        have e108 : ρ (.tmp 108) = vs 38 := by rw [← hρ]; kernel_rfl
        rw [d108] at e108; clear d108
        have econ : ∀ v : Value, ρ (.const v) = v := fun v => by rw [← hρ]; rfl
        clear hρ hV
        refine runs_val (v := .bool true) (w' := w) ?_ ⟨Below.refl _ _, rfl⟩
        go_simp <;> (first | exact IntWalk.u64_in _ (by omega) | exact IntWalk.u32_in _ (by omega) | exact IntWalk.u16_in _ (by omega) | exact IntWalk.u8_in _ (by omega) | exact IntWalk.i64_in _ (by omega) | skip)
      case r14_1o40 =>
        intro vs w hb hV
        rw [if_pos (by kernel_rfl)]
        generalize hρ : rho _ _ _ vs = ρ
        have d109 : (vs 39) = .bool true := hV 39 (by kernel_rfl)
        have e109 : ρ (.tmp 109) = vs 39 := by rw [← hρ]; kernel_rfl
        clear hρ hV
        refine runs_val (v := vs 39) (w' := w) ?_ ⟨Below.refl _ _, d109⟩
        go_simp
      case r14_1o41 =>
        intro vs w hb hV
        rw [if_pos (by kernel_rfl)]
        generalize hρ : rho _ _ _ vs = ρ
        have e11 : ρ (.tmp 11) = .pointer (some ⟨ga, 0, none⟩) := by rw [← hρ]; kernel_rfl
        clear hρ hV
        exact runs_load 30 (.tmp 11) rfl ga e11 30 (boardC f m) (0, 0) _ (((hb.block ga (blk_lt (HP10.out.get (i := 2) rfl))).trans (HP10.out.get (i := 2) rfl))) Try.underlying30 rfl (HI _ _).out ⟨Below.refl _ _, rfl⟩
      case r14_1o42 =>
        intro vs w hb hV
        rw [if_pos (by kernel_rfl)]
        generalize hρ : rho _ _ _ vs = ρ
        have e2 : ρ (.tmp 2) = .int .i64 o := by rw [← hρ]; kernel_rfl
        clear hρ hV
        refine runs_val (v := .int .i64 o) (w' := w) ?_ ⟨Below.refl _ _, rfl⟩
        go_simp <;> (first | exact IntWalk.u64_in _ (by omega) | exact IntWalk.u32_in _ (by omega) | exact IntWalk.u16_in _ (by omega) | exact IntWalk.u8_in _ (by omega) | exact IntWalk.i64_in _ (by omega) | skip)
      case r14_1o43 =>
        intro vs w hb hV
        rw [if_pos (by kernel_rfl)]
        generalize hρ : rho _ _ _ vs = ρ
        have d111 : (vs 41) = .agg (boardC f m) := hV 41 (by kernel_rfl)
        have e111 : ρ (.tmp 111) = vs 41 := by rw [← hρ]; kernel_rfl
        rw [d111] at e111; clear d111
        have d112 : (vs 42) = .int .i64 o := hV 42 (by kernel_rfl)
        have e112 : ρ (.tmp 112) = vs 42 := by rw [← hρ]; kernel_rfl
        rw [d112] at e112; clear d112
        have ef26 : ρ (.func 26) = .func (.func 26) #[] #[] := by rw [← hρ]; rfl
        clear hρ hV
        refine runs_call (f := 26) (args := #[.agg (boardC f m), .int .i64 o]) (w' := w) ?_ ?_
        · go_simp
        · refine (view_any f m o _ H48.out).mono ?_
          rintro e w5 ⟨rfl, hb5⟩
          exact ⟨_, rfl, hb5, rfl⟩
      case r14_1o44 =>
        intro vs w hb hV
        rw [if_pos (by kernel_rfl)]
        generalize hρ : rho _ _ _ vs = ρ
        have d113 : (vs 43) = .agg (boardC (viewF f m o) m) := hV 43 (by kernel_rfl)
        have e113 : ρ (.tmp 113) = vs 43 := by rw [← hρ]; kernel_rfl
        rw [d113] at e113; clear d113
        have ef27 : ρ (.func 27) = .func (.func 27) #[] #[] := by rw [← hρ]; rfl
        clear hρ hV
        refine runs_call (f := 27) (args := #[.agg (boardC (viewF f m o) m)]) (w' := w) ?_ ?_
        · go_simp
        · refine (KHA.out _).mono ?_
          rintro e w5 ⟨rfl, hb5⟩
          exact ⟨_, rfl, hb5, rfl⟩
      case r14_1o45 =>
        intro vs w hb hV
        rw [if_pos (by kernel_rfl)]
        generalize hρ : rho _ _ _ vs = ρ
        have e13 : ρ (.tmp 13) = .pointer (some ⟨gb, 0, none⟩) := by rw [← hρ]; kernel_rfl
        clear hρ hV
        exact runs_load 30 (.tmp 13) rfl gb e13 30 (boardC h m) (0, 0) _ (((hb.block gb (blk_lt (HP10.out.get (i := 1) rfl))).trans (HP10.out.get (i := 1) rfl))) Try.underlying30 rfl (HI _ _).out ⟨Below.refl _ _, rfl⟩
      case r14_1o46 =>
        intro vs w hb hV
        rw [if_pos (by kernel_rfl)]
        generalize hρ : rho _ _ _ vs = ρ
        have e2 : ρ (.tmp 2) = .int .i64 o := by rw [← hρ]; kernel_rfl
        clear hρ hV
        refine runs_val (v := .int .i64 o) (w' := w) ?_ ⟨Below.refl _ _, rfl⟩
        go_simp <;> (first | exact IntWalk.u64_in _ (by omega) | exact IntWalk.u32_in _ (by omega) | exact IntWalk.u16_in _ (by omega) | exact IntWalk.u8_in _ (by omega) | exact IntWalk.i64_in _ (by omega) | skip)
      case r14_1o47 =>
        intro vs w hb hV
        rw [if_pos (by kernel_rfl)]
        generalize hρ : rho _ _ _ vs = ρ
        have d115 : (vs 45) = .agg (boardC h m) := hV 45 (by kernel_rfl)
        have e115 : ρ (.tmp 115) = vs 45 := by rw [← hρ]; kernel_rfl
        rw [d115] at e115; clear d115
        have d116 : (vs 46) = .int .i64 o := hV 46 (by kernel_rfl)
        have e116 : ρ (.tmp 116) = vs 46 := by rw [← hρ]; kernel_rfl
        rw [d116] at e116; clear d116
        have ef26 : ρ (.func 26) = .func (.func 26) #[] #[] := by rw [← hρ]; rfl
        clear hρ hV
        refine runs_call (f := 26) (args := #[.agg (boardC h m), .int .i64 o]) (w' := w) ?_ ?_
        · go_simp
        · refine (view_any h m o _ H48.out).mono ?_
          rintro e w5 ⟨rfl, hb5⟩
          exact ⟨_, rfl, hb5, rfl⟩
      case r14_1o48 =>
        intro vs w hb hV
        rw [if_pos (by kernel_rfl)]
        generalize hρ : rho _ _ _ vs = ρ
        have d117 : (vs 47) = .agg (boardC (viewF h m o) m) := hV 47 (by kernel_rfl)
        have e117 : ρ (.tmp 117) = vs 47 := by rw [← hρ]; kernel_rfl
        rw [d117] at e117; clear d117
        have ef27 : ρ (.func 27) = .func (.func 27) #[] #[] := by rw [← hρ]; rfl
        clear hρ hV
        refine runs_call (f := 27) (args := #[.agg (boardC (viewF h m o) m)]) (w' := w) ?_ ?_
        · go_simp
        · refine (KHB.out _).mono ?_
          rintro e w5 ⟨rfl, hb5⟩
          exact ⟨_, rfl, hb5, rfl⟩
      case r14_1o49 =>
        intro vs w hb hV
        rw [if_pos (by kernel_rfl)]
        generalize hρ : rho _ _ _ vs = ρ
        have d114 : (vs 44) = .int .u32 hA := hV 44 (by kernel_rfl)
        have e114 : ρ (.tmp 114) = vs 44 := by rw [← hρ]; kernel_rfl
        rw [d114] at e114; clear d114
        have d118 : (vs 48) = .int .u32 hA := hV 48 (by kernel_rfl)
        have e118 : ρ (.tmp 118) = vs 48 := by rw [← hρ]; kernel_rfl
        rw [d118] at e118; clear d118
        clear hρ hV
        refine runs_val (v := .bool true) (w' := w) ?_ ⟨Below.refl _ _, rfl⟩
        go_simp <;> (first | exact IntWalk.u64_in _ (by omega) | exact IntWalk.u32_in _ (by omega) | exact IntWalk.u16_in _ (by omega) | exact IntWalk.u8_in _ (by omega) | exact IntWalk.i64_in _ (by omega) | skip)
      case r14_1o50 =>
        intro vs w hb hV
        rw [if_pos (by kernel_rfl)]
        generalize hρ : rho _ _ _ vs = ρ
        have d110 : (vs 40) = .bool true := hV 40 (by kernel_rfl)
        have e110 : ρ (.tmp 110) = vs 40 := by rw [← hρ]; kernel_rfl
        rw [d110] at e110; clear d110
        have d119 : (vs 49) = .bool true := hV 49 (by kernel_rfl)
        have e119 : ρ (.tmp 119) = vs 49 := by rw [← hρ]; kernel_rfl
        rw [d119] at e119; clear d119
        have econ : ∀ v : Value, ρ (.const v) = v := fun v => by rw [← hρ]; rfl
        clear hρ hV
        refine runs_val (v := .bool true) (w' := w) ?_ ⟨Below.refl _ _, rfl⟩
        go_simp <;> (first | exact IntWalk.u64_in _ (by omega) | exact IntWalk.u32_in _ (by omega) | exact IntWalk.u16_in _ (by omega) | exact IntWalk.u8_in _ (by omega) | exact IntWalk.i64_in _ (by omega) | skip)
      case r14_1o51 =>
        intro vs w hb hV
        rw [if_pos (by kernel_rfl)]
        generalize hρ : rho _ _ _ vs = ρ
        have d120 : (vs 50) = .bool true := hV 50 (by kernel_rfl)
        have e120 : ρ (.tmp 120) = vs 50 := by rw [← hρ]; kernel_rfl
        clear hρ hV
        refine runs_val (v := vs 50) (w' := w) ?_ ⟨Below.refl _ _, d120⟩
        go_simp
      case r14_1o52 =>
        intro vs w hb hV
        rw [if_pos (by kernel_rfl)]
        generalize hρ : rho _ _ _ vs = ρ
        have e11 : ρ (.tmp 11) = .pointer (some ⟨ga, 0, none⟩) := by rw [← hρ]; kernel_rfl
        clear hρ hV
        exact runs_load 30 (.tmp 11) rfl ga e11 30 (boardC f m) (0, 0) _ (((hb.block ga (blk_lt (HP10.out.get (i := 2) rfl))).trans (HP10.out.get (i := 2) rfl))) Try.underlying30 rfl (HI _ _).out ⟨Below.refl _ _, rfl⟩
      case r14_1o53 =>
        intro vs w hb hV
        rw [if_pos (by kernel_rfl)]
        generalize hρ : rho _ _ _ vs = ρ
        have e15 : ρ (.tmp 15) = .pointer (some ⟨gc, 0, none⟩) := by rw [← hρ]; kernel_rfl
        clear hρ hV
        exact runs_load 30 (.tmp 15) rfl gc e15 30 (boardC fc mh) (0, 0) _ (((hb.block gc (blk_lt (HP10.out.get (i := 0) rfl))).trans (HP10.out.get (i := 0) rfl))) Try.underlying30 rfl (HI _ _).out ⟨Below.refl _ _, rfl⟩
      case r14_1o54 =>
        intro vs w hb hV
        rw [if_pos (by kernel_rfl)]
        generalize hρ : rho _ _ _ vs = ρ
        have e2 : ρ (.tmp 2) = .int .i64 o := by rw [← hρ]; kernel_rfl
        clear hρ hV
        refine runs_val (v := .int .i64 o) (w' := w) ?_ ⟨Below.refl _ _, rfl⟩
        go_simp <;> (first | exact IntWalk.u64_in _ (by omega) | exact IntWalk.u32_in _ (by omega) | exact IntWalk.u16_in _ (by omega) | exact IntWalk.u8_in _ (by omega) | exact IntWalk.i64_in _ (by omega) | skip)
      case r14_1o55 =>
        intro vs w hb hV
        rw [if_pos (by kernel_rfl)]
        generalize hρ : rho _ _ _ vs = ρ
        have d122 : (vs 52) = .agg (boardC f m) := hV 52 (by kernel_rfl)
        have e122 : ρ (.tmp 122) = vs 52 := by rw [← hρ]; kernel_rfl
        rw [d122] at e122; clear d122
        have d123 : (vs 53) = .agg (boardC fc mh) := hV 53 (by kernel_rfl)
        have e123 : ρ (.tmp 123) = vs 53 := by rw [← hρ]; kernel_rfl
        rw [d123] at e123; clear d123
        have d124 : (vs 54) = .int .i64 o := hV 54 (by kernel_rfl)
        have e124 : ρ (.tmp 124) = vs 54 := by rw [← hρ]; kernel_rfl
        rw [d124] at e124; clear d124
        have ef24 : ρ (.func 24) = .func (.func 24) #[] #[] := by rw [← hρ]; rfl
        clear hρ hV
        refine runs_call (f := 24) (args := #[.agg (boardC f m), .agg (boardC fc mh), .int .i64 o]) (w' := w) ?_ ?_
        · go_simp
        · refine (KA3.out _).mono ?_
          rintro e w5 ⟨rfl, hb5⟩
          exact ⟨_, rfl, hb5, rfl⟩
      case r14_1o56 =>
        intro vs w hb hV
        rw [if_pos (by kernel_rfl)]
        generalize hρ : rho _ _ _ vs = ρ
        have e0 : ρ (.tmp 0) = .slice Q m d := by rw [← hρ]; kernel_rfl
        clear hρ hV
        refine runs_val (v := .slice Q m d) (w' := w) ?_ ⟨Below.refl _ _, rfl⟩
        go_simp <;> (first | exact IntWalk.u64_in _ (by omega) | exact IntWalk.u32_in _ (by omega) | exact IntWalk.u16_in _ (by omega) | exact IntWalk.u8_in _ (by omega) | exact IntWalk.i64_in _ (by omega) | skip)
      case r14_1o57 =>
        intro vs w hb hV
        rw [if_pos (by kernel_rfl)]
        generalize hρ : rho _ _ _ vs = ρ
        have d126 : (vs 56) = .slice Q m d := hV 56 (by kernel_rfl)
        have e126 : ρ (.tmp 126) = vs 56 := by rw [← hρ]; kernel_rfl
        rw [d126] at e126; clear d126
        clear hρ hV
        refine runs_val (v := .int .i64 m) (w' := w) ?_ ⟨Below.refl _ _, rfl⟩
        go_simp <;> (first | exact IntWalk.u64_in _ (by omega) | exact IntWalk.u32_in _ (by omega) | exact IntWalk.u16_in _ (by omega) | exact IntWalk.u8_in _ (by omega) | exact IntWalk.i64_in _ (by omega) | skip)
      case r14_1o58 =>
        intro vs w hb hV
        rw [if_pos (by kernel_rfl)]
        generalize hρ : rho _ _ _ vs = ρ
        have e0 : ρ (.tmp 0) = .slice Q m d := by rw [← hρ]; kernel_rfl
        clear hρ hV
        refine runs_val (v := .slice Q m d) (w' := w) ?_ ⟨Below.refl _ _, rfl⟩
        go_simp <;> (first | exact IntWalk.u64_in _ (by omega) | exact IntWalk.u32_in _ (by omega) | exact IntWalk.u16_in _ (by omega) | exact IntWalk.u8_in _ (by omega) | exact IntWalk.i64_in _ (by omega) | skip)
      case r14_1o59 =>
        intro vs w hb hV
        rw [if_pos (by kernel_rfl)]
        generalize hρ : rho _ _ _ vs = ρ
        have d128 : (vs 58) = .slice Q m d := hV 58 (by kernel_rfl)
        have e128 : ρ (.tmp 128) = vs 58 := by rw [← hρ]; kernel_rfl
        rw [d128] at e128; clear d128
        clear hρ hV
        refine runs_val (v := .int .i64 m) (w' := w) ?_ ⟨Below.refl _ _, rfl⟩
        go_simp <;> (first | exact IntWalk.u64_in _ (by omega) | exact IntWalk.u32_in _ (by omega) | exact IntWalk.u16_in _ (by omega) | exact IntWalk.u8_in _ (by omega) | exact IntWalk.i64_in _ (by omega) | skip)
      case r14_1o60 =>
        intro vs w hb hV
        rw [if_pos (by kernel_rfl)]
        generalize hρ : rho _ _ _ vs = ρ
        have d129 : (vs 59) = .int .i64 m := hV 59 (by kernel_rfl)
        have e129 : ρ (.tmp 129) = vs 59 := by rw [← hρ]; kernel_rfl
        rw [d129] at e129; clear d129
        have econ : ∀ v : Value, ρ (.const v) = v := fun v => by rw [← hρ]; rfl
        clear hρ hV
        obtain ⟨hq2, hq3⟩ := HQ2.out
        refine runs_val (v := .int .i64 mh) (w' := w) ?_ ⟨Below.refl _ _, rfl⟩
        go_simp
        exact IntWalk.i64_in _ (by have := HMH.out; omega)
      case r14_1o61 =>
        intro vs w hb hV
        rw [if_pos (by kernel_rfl)]
        generalize hρ : rho _ _ _ vs = ρ
        have d127 : (vs 57) = .int .i64 m := hV 57 (by kernel_rfl)
        have e127 : ρ (.tmp 127) = vs 57 := by rw [← hρ]; kernel_rfl
        rw [d127] at e127; clear d127
        have d130 : (vs 60) = .int .i64 mh := hV 60 (by kernel_rfl)
        have e130 : ρ (.tmp 130) = vs 60 := by rw [← hρ]; kernel_rfl
        rw [d130] at e130; clear d130
        clear hρ hV
        have hdd := HDD.out
        refine runs_val (v := .bool δ) (w' := w) ?_ ⟨Below.refl _ _, rfl⟩
        go_simp
      case r14_1o62 =>
        intro vs w hb hV
        rw [if_pos (by kernel_rfl)]
        generalize hρ : rho _ _ _ vs = ρ
        have d125 : (vs 55) = .bool δ := hV 55 (by kernel_rfl)
        have e125 : ρ (.tmp 125) = vs 55 := by rw [← hρ]; kernel_rfl
        rw [d125] at e125; clear d125
        have d131 : (vs 61) = .bool δ := hV 61 (by kernel_rfl)
        have e131 : ρ (.tmp 131) = vs 61 := by rw [← hρ]; kernel_rfl
        rw [d131] at e131; clear d131
        clear hρ hV
        refine runs_val (v := .bool true) (w' := w) ?_ ⟨Below.refl _ _, rfl⟩
        go_simp <;> (first | exact IntWalk.u64_in _ (by omega) | exact IntWalk.u32_in _ (by omega) | exact IntWalk.u16_in _ (by omega) | exact IntWalk.u8_in _ (by omega) | exact IntWalk.i64_in _ (by omega) | skip)
      case r14_1o63 =>
        intro vs w hb hV
        rw [if_pos (by kernel_rfl)]
        generalize hρ : rho _ _ _ vs = ρ
        have d121 : (vs 51) = .bool true := hV 51 (by kernel_rfl)
        have e121 : ρ (.tmp 121) = vs 51 := by rw [← hρ]; kernel_rfl
        rw [d121] at e121; clear d121
        have d132 : (vs 62) = .bool true := hV 62 (by kernel_rfl)
        have e132 : ρ (.tmp 132) = vs 62 := by rw [← hρ]; kernel_rfl
        rw [d132] at e132; clear d132
        have econ : ∀ v : Value, ρ (.const v) = v := fun v => by rw [← hρ]; rfl
        clear hρ hV
        refine runs_val (v := .bool true) (w' := w) ?_ ⟨Below.refl _ _, rfl⟩
        go_simp <;> (first | exact IntWalk.u64_in _ (by omega) | exact IntWalk.u32_in _ (by omega) | exact IntWalk.u16_in _ (by omega) | exact IntWalk.u8_in _ (by omega) | exact IntWalk.i64_in _ (by omega) | skip)
      case r14_1o64 =>
        intro vs w hb hV
        rw [if_pos (by kernel_rfl)]
        generalize hρ : rho _ _ _ vs = ρ
        have d133 : (vs 63) = .bool true := hV 63 (by kernel_rfl)
        have e133 : ρ (.tmp 133) = vs 63 := by rw [← hρ]; kernel_rfl
        clear hρ hV
        refine runs_val (v := vs 63) (w' := w) ?_ ⟨Below.refl _ _, d133⟩
        go_simp
      case r14_1o65 =>
        intro vs w hb hV
        rw [if_pos (by kernel_rfl)]
        generalize hρ : rho _ _ _ vs = ρ
        have e11 : ρ (.tmp 11) = .pointer (some ⟨ga, 0, none⟩) := by rw [← hρ]; kernel_rfl
        clear hρ hV
        exact runs_load 30 (.tmp 11) rfl ga e11 30 (boardC f m) (0, 0) _ (((hb.block ga (blk_lt (HP10.out.get (i := 2) rfl))).trans (HP10.out.get (i := 2) rfl))) Try.underlying30 rfl (HI _ _).out ⟨Below.refl _ _, rfl⟩
      case r14_1o66 =>
        intro vs w hb hV
        rw [if_pos (by kernel_rfl)]
        generalize hρ : rho _ _ _ vs = ρ
        have d135 : (vs 65) = .agg (boardC f m) := hV 65 (by kernel_rfl)
        have e135 : ρ (.tmp 135) = vs 65 := by rw [← hρ]; kernel_rfl
        rw [d135] at e135; clear d135
        have ef28 : ρ (.func 28) = .func (.func 28) #[] #[] := by rw [← hρ]; rfl
        clear hρ hV
        refine runs_call (f := 28) (args := #[.agg (boardC f m)]) (w' := w) ?_ ?_
        · go_simp
        · refine (KLA.out _).mono ?_
          rintro e w5 ⟨rfl, hb5⟩
          exact ⟨_, rfl, hb5, rfl⟩
      case r14_1o67 =>
        intro vs w hb hV
        rw [if_pos (by kernel_rfl)]
        generalize hρ : rho _ _ _ vs = ρ
        have e13 : ρ (.tmp 13) = .pointer (some ⟨gb, 0, none⟩) := by rw [← hρ]; kernel_rfl
        clear hρ hV
        exact runs_load 30 (.tmp 13) rfl gb e13 30 (boardC h m) (0, 0) _ (((hb.block gb (blk_lt (HP10.out.get (i := 1) rfl))).trans (HP10.out.get (i := 1) rfl))) Try.underlying30 rfl (HI _ _).out ⟨Below.refl _ _, rfl⟩
      case r14_1o68 =>
        intro vs w hb hV
        rw [if_pos (by kernel_rfl)]
        generalize hρ : rho _ _ _ vs = ρ
        have e3 : ρ (.tmp 3) = .int .i64 p := by rw [← hρ]; kernel_rfl
        clear hρ hV
        refine runs_val (v := .int .i64 p) (w' := w) ?_ ⟨Below.refl _ _, rfl⟩
        go_simp <;> (first | exact IntWalk.u64_in _ (by omega) | exact IntWalk.u32_in _ (by omega) | exact IntWalk.u16_in _ (by omega) | exact IntWalk.u8_in _ (by omega) | exact IntWalk.i64_in _ (by omega) | skip)
      case r14_1o69 =>
        intro vs w hb hV
        rw [if_pos (by kernel_rfl)]
        generalize hρ : rho _ _ _ vs = ρ
        have d137 : (vs 67) = .agg (boardC h m) := hV 67 (by kernel_rfl)
        have e137 : ρ (.tmp 137) = vs 67 := by rw [← hρ]; kernel_rfl
        rw [d137] at e137; clear d137
        have d138 : (vs 68) = .int .i64 p := hV 68 (by kernel_rfl)
        have e138 : ρ (.tmp 138) = vs 68 := by rw [← hρ]; kernel_rfl
        rw [d138] at e138; clear d138
        have ef26 : ρ (.func 26) = .func (.func 26) #[] #[] := by rw [← hρ]; rfl
        clear hρ hV
        refine runs_call (f := 26) (args := #[.agg (boardC h m), .int .i64 p]) (w' := w) ?_ ?_
        · go_simp
        · refine (view_any h m p _ H48.out).mono ?_
          rintro e w5 ⟨rfl, hb5⟩
          exact ⟨_, rfl, hb5, rfl⟩
      case r14_1o70 =>
        intro vs w hb hV
        rw [if_pos (by kernel_rfl)]
        generalize hρ : rho _ _ _ vs = ρ
        have d139 : (vs 69) = .agg (boardC (viewF h m p) m) := hV 69 (by kernel_rfl)
        have e139 : ρ (.tmp 139) = vs 69 := by rw [← hρ]; kernel_rfl
        rw [d139] at e139; clear d139
        have ef28 : ρ (.func 28) = .func (.func 28) #[] #[] := by rw [← hρ]; rfl
        clear hρ hV
        refine runs_call (f := 28) (args := #[.agg (boardC (viewF h m p) m)]) (w' := w) ?_ ?_
        · go_simp
        · refine (KLB.out _).mono ?_
          rintro e w5 ⟨rfl, hb5⟩
          exact ⟨_, rfl, hb5, rfl⟩
      case r14_1o71 =>
        intro vs w hb hV
        rw [if_pos (by kernel_rfl)]
        generalize hρ : rho _ _ _ vs = ρ
        have d136 : (vs 66) = .int .u32 lA := hV 66 (by kernel_rfl)
        have e136 : ρ (.tmp 136) = vs 66 := by rw [← hρ]; kernel_rfl
        rw [d136] at e136; clear d136
        have d140 : (vs 70) = .int .u32 lA := hV 70 (by kernel_rfl)
        have e140 : ρ (.tmp 140) = vs 70 := by rw [← hρ]; kernel_rfl
        rw [d140] at e140; clear d140
        clear hρ hV
        refine runs_val (v := .bool true) (w' := w) ?_ ⟨Below.refl _ _, rfl⟩
        go_simp <;> (first | exact IntWalk.u64_in _ (by omega) | exact IntWalk.u32_in _ (by omega) | exact IntWalk.u16_in _ (by omega) | exact IntWalk.u8_in _ (by omega) | exact IntWalk.i64_in _ (by omega) | skip)
      case r14_1o72 =>
        intro vs w hb hV
        rw [if_pos (by kernel_rfl)]
        generalize hρ : rho _ _ _ vs = ρ
        have d134 : (vs 64) = .bool true := hV 64 (by kernel_rfl)
        have e134 : ρ (.tmp 134) = vs 64 := by rw [← hρ]; kernel_rfl
        rw [d134] at e134; clear d134
        have d141 : (vs 71) = .bool true := hV 71 (by kernel_rfl)
        have e141 : ρ (.tmp 141) = vs 71 := by rw [← hρ]; kernel_rfl
        rw [d141] at e141; clear d141
        have econ : ∀ v : Value, ρ (.const v) = v := fun v => by rw [← hρ]; rfl
        clear hρ hV
        refine runs_val (v := .bool true) (w' := w) ?_ ⟨Below.refl _ _, rfl⟩
        go_simp <;> (first | exact IntWalk.u64_in _ (by omega) | exact IntWalk.u32_in _ (by omega) | exact IntWalk.u16_in _ (by omega) | exact IntWalk.u8_in _ (by omega) | exact IntWalk.i64_in _ (by omega) | skip)
      case r14_1o73 =>
        intro vs w hb hV
        rw [if_pos (by kernel_rfl)]
        generalize hρ : rho _ _ _ vs = ρ
        have d142 : (vs 72) = .bool true := hV 72 (by kernel_rfl)
        have e142 : ρ (.tmp 142) = vs 72 := by rw [← hρ]; kernel_rfl
        clear hρ hV
        refine runs_val (v := vs 72) (w' := w) ?_ ⟨Below.refl _ _, d142⟩
        go_simp
      case r14_1e =>
        intro vs w11 hb11 hV
        have d70 : (vs 0) = .agg (boardC f m) := hV 0 (Nat.le_of_ble_eq_true rfl)
        have d71 : (vs 1) = .agg (boardC h m) := hV 1 (Nat.le_of_ble_eq_true rfl)
        have d72 : (vs 2) = .int .i64 o := hV 2 (Nat.le_of_ble_eq_true rfl)
        have d73 : (vs 3) = .bool true := hV 3 (Nat.le_of_ble_eq_true rfl)
        have d74 : (vs 4) = .bool true := hV 4 (Nat.le_of_ble_eq_true rfl)
        have d75 : (vs 5) = .agg (boardC f m) := hV 5 (Nat.le_of_ble_eq_true rfl)
        have d76 : (vs 6) = .agg (boardC h m) := hV 6 (Nat.le_of_ble_eq_true rfl)
        have d77 : (vs 7) = .int .i64 p := hV 7 (Nat.le_of_ble_eq_true rfl)
        have d78 : (vs 8) = .bool β := hV 8 (Nat.le_of_ble_eq_true rfl)
        have d79 : (vs 9) = .slice Q m d := hV 9 (Nat.le_of_ble_eq_true rfl)
        have d80 : (fun (w : World) (v : Value) => ∃ A c, v = .slice A m c ∧ m ≤ c ∧ k52.C w A m (M.map toR)) w11 (vs 10) := hV 10 (Nat.le_of_ble_eq_true rfl)
        have d81 : (vs 11) = .int .i64 p := hV 11 (Nat.le_of_ble_eq_true rfl)
        have d82 : (fun (w : World) (v : Value) => ∃ A c, v = .slice A m c ∧ m ≤ c ∧ k52.C w A m ((M.map toR).map (viewR p))) w11 (vs 12) := hV 12 (Nat.le_of_ble_eq_true rfl)
        have d83 : (vs 13) = .slice none m 0 := hV 13 (Nat.le_of_ble_eq_true rfl)
        have d84 : (fun (w : World) (v : Value) => ∃ A c, v = .slice A m c ∧ m ≤ c ∧ k52.C w A m ((listF h m).map toR)) w11 (vs 14) := hV 14 (Nat.le_of_ble_eq_true rfl)
        have d85 : (vs 15) = .int .i64 p := hV 15 (Nat.le_of_ble_eq_true rfl)
        have d86 : (fun (w : World) (v : Value) => ∃ A c, v = .slice A m c ∧ m ≤ c ∧ k52.C w A m (((listF h m).map toR).map (viewR p))) w11 (vs 16) := hV 16 (Nat.le_of_ble_eq_true rfl)
        have d87 : (vs 17) = .bool β := hV 17 (Nat.le_of_ble_eq_true rfl)
        have d88 : (vs 18) = .bool true := hV 18 (Nat.le_of_ble_eq_true rfl)
        have d89 : (vs 19) = .bool true := hV 19 (Nat.le_of_ble_eq_true rfl)
        have d90 : (vs 20) = .bool true := hV 20 (Nat.le_of_ble_eq_true rfl)
        have d91 : (vs 21) = .agg (boardC f m) := hV 21 (Nat.le_of_ble_eq_true rfl)
        have d92 : (vs 22) = .int .i64 o := hV 22 (Nat.le_of_ble_eq_true rfl)
        have d93 : (vs 23) = .agg (boardC (viewF f m o) m) := hV 23 (Nat.le_of_ble_eq_true rfl)
        have d94 : (vs 24) = .int .i64 o := hV 24 (Nat.le_of_ble_eq_true rfl)
        have d95 : (vs 25) = .agg (boardC (viewF (viewF f m o) m o) m) := hV 25 (Nat.le_of_ble_eq_true rfl)
        have d96 : (vs 26) = .agg (boardC f m) := hV 26 (Nat.le_of_ble_eq_true rfl)
        have d97 : (vs 27) = .int .i64 o := hV 27 (Nat.le_of_ble_eq_true rfl)
        have d98 : (vs 28) = .agg (boardC (viewF f m o) m) := hV 28 (Nat.le_of_ble_eq_true rfl)
        have d99 : (vs 29) = .bool true := hV 29 (Nat.le_of_ble_eq_true rfl)
        have d100 : (vs 30) = .bool true := hV 30 (Nat.le_of_ble_eq_true rfl)
        have d101 : (vs 31) = .bool true := hV 31 (Nat.le_of_ble_eq_true rfl)
        have d102 : (vs 32) = .agg (boardC f m) := hV 32 (Nat.le_of_ble_eq_true rfl)
        have d103 : (vs 33) = .int .i64 o := hV 33 (Nat.le_of_ble_eq_true rfl)
        have d104 : (vs 34) = .agg (boardC (viewF f m o) m) := hV 34 (Nat.le_of_ble_eq_true rfl)
        have d105 : (vs 35) = .agg (boardC h m) := hV 35 (Nat.le_of_ble_eq_true rfl)
        have d106 : (vs 36) = .int .i64 o := hV 36 (Nat.le_of_ble_eq_true rfl)
        have d107 : (vs 37) = .agg (boardC (viewF h m o) m) := hV 37 (Nat.le_of_ble_eq_true rfl)
        have d108 : (vs 38) = .bool true := hV 38 (Nat.le_of_ble_eq_true rfl)
        have d109 : (vs 39) = .bool true := hV 39 (Nat.le_of_ble_eq_true rfl)
        have d110 : (vs 40) = .bool true := hV 40 (Nat.le_of_ble_eq_true rfl)
        have d111 : (vs 41) = .agg (boardC f m) := hV 41 (Nat.le_of_ble_eq_true rfl)
        have d112 : (vs 42) = .int .i64 o := hV 42 (Nat.le_of_ble_eq_true rfl)
        have d113 : (vs 43) = .agg (boardC (viewF f m o) m) := hV 43 (Nat.le_of_ble_eq_true rfl)
        have d114 : (vs 44) = .int .u32 hA := hV 44 (Nat.le_of_ble_eq_true rfl)
        have d115 : (vs 45) = .agg (boardC h m) := hV 45 (Nat.le_of_ble_eq_true rfl)
        have d116 : (vs 46) = .int .i64 o := hV 46 (Nat.le_of_ble_eq_true rfl)
        have d117 : (vs 47) = .agg (boardC (viewF h m o) m) := hV 47 (Nat.le_of_ble_eq_true rfl)
        have d118 : (vs 48) = .int .u32 hA := hV 48 (Nat.le_of_ble_eq_true rfl)
        have d119 : (vs 49) = .bool true := hV 49 (Nat.le_of_ble_eq_true rfl)
        have d120 : (vs 50) = .bool true := hV 50 (Nat.le_of_ble_eq_true rfl)
        have d121 : (vs 51) = .bool true := hV 51 (Nat.le_of_ble_eq_true rfl)
        have d122 : (vs 52) = .agg (boardC f m) := hV 52 (Nat.le_of_ble_eq_true rfl)
        have d123 : (vs 53) = .agg (boardC fc mh) := hV 53 (Nat.le_of_ble_eq_true rfl)
        have d124 : (vs 54) = .int .i64 o := hV 54 (Nat.le_of_ble_eq_true rfl)
        have d125 : (vs 55) = .bool δ := hV 55 (Nat.le_of_ble_eq_true rfl)
        have d126 : (vs 56) = .slice Q m d := hV 56 (Nat.le_of_ble_eq_true rfl)
        have d127 : (vs 57) = .int .i64 m := hV 57 (Nat.le_of_ble_eq_true rfl)
        have d128 : (vs 58) = .slice Q m d := hV 58 (Nat.le_of_ble_eq_true rfl)
        have d129 : (vs 59) = .int .i64 m := hV 59 (Nat.le_of_ble_eq_true rfl)
        have d130 : (vs 60) = .int .i64 mh := hV 60 (Nat.le_of_ble_eq_true rfl)
        have d131 : (vs 61) = .bool δ := hV 61 (Nat.le_of_ble_eq_true rfl)
        have d132 : (vs 62) = .bool true := hV 62 (Nat.le_of_ble_eq_true rfl)
        have d133 : (vs 63) = .bool true := hV 63 (Nat.le_of_ble_eq_true rfl)
        have d134 : (vs 64) = .bool true := hV 64 (Nat.le_of_ble_eq_true rfl)
        have d135 : (vs 65) = .agg (boardC f m) := hV 65 (Nat.le_of_ble_eq_true rfl)
        have d136 : (vs 66) = .int .u32 lA := hV 66 (Nat.le_of_ble_eq_true rfl)
        have d137 : (vs 67) = .agg (boardC h m) := hV 67 (Nat.le_of_ble_eq_true rfl)
        have d138 : (vs 68) = .int .i64 p := hV 68 (Nat.le_of_ble_eq_true rfl)
        have d139 : (vs 69) = .agg (boardC (viewF h m p) m) := hV 69 (Nat.le_of_ble_eq_true rfl)
        have d140 : (vs 70) = .int .u32 lA := hV 70 (Nat.le_of_ble_eq_true rfl)
        have d141 : (vs 71) = .bool true := hV 71 (Nat.le_of_ble_eq_true rfl)
        have d142 : (vs 72) = .bool true := hV 72 (Nat.le_of_ble_eq_true rfl)
        have d8 : (vs 73) = .bool true := hV 73 (Nat.le_of_ble_eq_true rfl)
        clear hV
        simp only [putAll]
        rw [d70, d71, d72, d73, d74, d75, d76, d77, d78, d79, d81, d83, d85, d87, d88, d89, d90, d91, d92, d93, d94, d95, d96, d97, d98, d99, d100, d101, d102, d103, d104, d105, d106, d107, d108, d109, d110, d111, d112, d113, d114, d115, d116, d117, d118, d119, d120, d121, d122, d123, d124, d125, d126, d127, d128, d129, d130, d131, d132, d133, d134, d135, d136, d137, d138, d139, d140, d141, d142, d8]
        clear d70 d71 d72 d73 d74 d75 d76 d77 d78 d79 d81 d83 d85 d87 d88 d89 d90 d91 d92 d93 d94 d95 d96 d97 d98 d99 d100 d101 d102 d103 d104 d105 d106 d107 d108 d109 d110 d111 d112 d113 d114 d115 d116 d117 d118 d119 d120 d121 d122 d123 d124 d125 d126 d127 d128 d129 d130 d131 d132 d133 d134 d135 d136 d137 d138 d139 d140 d141 d142 d8
        generalize vs 10 = v80 at *
        generalize vs 12 = v82 at *
        generalize vs 14 = v84 at *
        generalize vs 16 = v86 at *
        clear vs
        simp only [Act.put, List.setIfInBounds_toArray, List.set_cons_zero, List.set_cons_succ]
        clear d80 d82 d84 d86
        have HP11 := Aside0.mk (HP10.out.call hb11)
        clear hb11
        go_wp2_with fail
        go_ret
        exact ⟨rfl, HP11.out.bel⟩
  · rw [HML.out] at hg2 hcu
    rw [HML.out]
    rw [HF.out] at hcu
    have HP4 := Aside0.mk (show Hp w.heap.size w w3 [(g, .cells cur 25 (0, 0))] [fun X => k25.R 25 X w.heap.size (fun _ => True) (.slice Q m d) M] from ((HP2.out.found hb3 hg1 hg3).drop (fun φ h => by rw [List.mem_singleton.1 h]; exact List.mem_cons_self)))
    have HCU : Aside0 (Cur cur m (altF f vs o 0)) := ⟨by rw [altF_zero]; exact hcu⟩
    have HDM := Aside0.mk hg2
    clear hv3 hb3 HP2 HC2 HP3 hg1 hg2 hg3 hcu
    go_wp2_with fail
    go_loopw [25] (fun v25 wr => ∃ i : Nat, i ≤ m ∧ v25 = .int .i64 i ∧ Aside0 (∃ cur, Hp w.heap.size w wr [(g, .cells cur 25 (0, 0))] [fun X => k25.R 25 X w.heap.size (fun _ => True) (.slice Q m d) M] ∧ Cur cur m (altF f vs o i))) (fun v25 _ => m - (intOf v25).toNat)
    case atStart => exact ⟨0, by omega, rfl, ⟨cur, HP4.out, HCU.out⟩⟩
    case round =>
      clear HP4 HCU
      obtain ⟨i, hi, rfl, H⟩ := hrel
      by_cases hlt : i < m
      · obtain ⟨cu, HQ⟩ := H.out
        have HQ := Aside0.mk HQ
        have d1 : decide (i < m) = true := decide_eq_true hlt
        have hi48 : (i : Int) < m := by omega
        have hi0 : (0 : Int) ≤ i := by omega
        have hm48 : m ≤ 48 := H48.out
        have c1 : wr.cell? ⟨g, i * 2 + 1, none⟩ = some (.int .u32 (f i).f1) := by
          have := (blk_cell (HQ.out.1.get (i := 0) rfl) (2 * i + 1)).trans (HQ.out.2 i hlt).2
          rw [altF_f1, Nat.mul_comm] at this
          exact this
        have c0 : wr.cell? ⟨g, i * 2, none⟩ = some (.int .i32 (f i).f0) := by
          have := (blk_cell (HQ.out.1.get (i := 0) rfl) (2 * i)).trans (HQ.out.2 i hlt).1
          rw [altF_self, Nat.mul_comm] at this
          exact this
        have HLT := Aside0.mk hlt
        clear H
        by_cases hiq : i < q
        · have d2 : decide (i < q) = true := decide_eq_true hiq
          have hiq' : (i : Int) < q := by omega
          have KH := fun X : World => Aside0.mk (has_any (f i).f1 o X)
          cases hh : hasB (f i).f1 o with
          | true =>
            rw [hh] at KH
            have HK := Aside0.mk (altF_keep f vs o i (fun h => by rw [hh] at h; cases h.2))
            clear hh
            go_wp2_with fail
            refine (KH _).out.mono ?_
            rintro e z1 ⟨rfl, nd, rfl⟩
            have H2 : Aside0 (∃ cur, Hp w.heap.size w (wr.drewN nd) [(g, .cells cur 25 (0, 0))] [fun X => k25.R 25 X w.heap.size (fun _ => True) (.slice Q m d) M] ∧ Cur cur m (altF f vs o (i + 1))) := ⟨cu, HQ.out.1.drewN nd, by rw [HK.out]; exact HQ.out.2⟩
            clear HQ KH HK c0 c1
            go_wp2_with fail
            go_roundw
            case rel => exact ⟨i + 1, by omega, by go_num, H2⟩
            case measure => simp [intOf]; omega
          | false =>
            rw [hh] at KH
            have hvl : i < vs.length := by rw [HQL.out.1]; exact hiq
            have HK := Aside0.mk (altF_step f vs o i hvl hh)
            clear hh
            go_wp2_with fail
            refine (KH _).out.mono ?_
            rintro e z1 ⟨rfl, nd, rfl⟩
            have G1 := Aside0.mk (HQ.out.1.drewN nd)
            have HC := Aside0.mk HQ.out.2
            clear HQ KH c1
            obtain ⟨bd, hbd, v0⟩ := int_at (Kd.C_below HRV.out G1.out.bel) i hvl
            have HVI := Aside0.mk hvl
            subst hbd
            have f0' : (wr.drewN nd).frozen? ⟨g, i * 2, none⟩ = false := blk_frozen (G1.out.get (i := 0) rfl) (i * 2)
            have H2 : Aside0 (∃ cur, Hp w.heap.size w ((wr.drewN nd).setCell ⟨g, i * 2, none⟩ (.int .i32 vs[i])) [(g, .cells cur 25 (0, 0))] [fun X => k25.R 25 X w.heap.size (fun _ => True) (.slice Q m d) M] ∧ Cur cur m (altF f vs o (i + 1))) := ⟨_, G1.out.setCell (i := 0) rfl (i * 2) (.int .i32 vs[i]), by rw [HK.out, Nat.mul_comm]; exact HC.out.setlo HLT.out _⟩
            clear G1 HC HK
            go_wp2_with fail
            go_roundw
            case rel => exact ⟨i + 1, by omega, by go_num, H2⟩
            case measure => simp [intOf]; omega
        · have d2 : decide (i < q) = false := decide_eq_false hiq
          have hiq' : ¬ (i : Int) < q := by omega
          have HK := Aside0.mk (altF_keep f vs o i (fun h => by have := HQL.out.1; omega))
          have H2 : Aside0 (∃ cur, Hp w.heap.size w wr [(g, .cells cur 25 (0, 0))] [fun X => k25.R 25 X w.heap.size (fun _ => True) (.slice Q m d) M] ∧ Cur cur m (altF f vs o (i + 1))) := ⟨cu, HQ.out.1, by rw [HK.out]; exact HQ.out.2⟩
          clear HQ HK c0 c1
          go_wp2_with fail
          go_roundw
          case rel => exact ⟨i + 1, by omega, by go_num, H2⟩
          case measure => simp [intOf]; omega
      · obtain ⟨cu, HQ⟩ := H.out
        obtain rfl : m = i := by omega
        have d1 : decide (m < m) = false := decide_eq_false (by omega)
        have HPz := Aside0.mk (HQ.1.freeze (fun X => k25.C X (some ⟨g, 0, none⟩) m (listF (altF f vs o m) m)) (fun W' hW' => C_of_cur hW' HQ.2 (by have := H48.out; omega)))
        clear H hi hlt HQ
        obtain ⟨h, hh⟩ : ∃ h, altF f vs o m = h := ⟨_, rfl⟩
        rw [hh] at HPz
        have HH := Aside0.mk hh
        have HSZ := Aside0.mk (show m ≤ 48 from H48.out)
        clear hh
        have e1 : fL (listF h m) = h := fL_listF h m (fun j hj => by rw [← HH.out]; unfold altF; rw [if_neg (fun hh => hj hh.1), ← HF.out]; exact fL_out (by rw [HML.out]; exact hj))
        have HE1 := Aside0.mk e1
        clear e1
        have HCA := Aside0.mk (Ru_C (HPz.out.fact (i := 1) rfl)).2.2
        go_wp2_with fail
        refine (new_any Q m d M _ HCA.out HMD.out H48.out).mono ?_
        rintro e w5 ⟨rfl, hb5⟩
        have HP5 := Aside0.mk (HPz.out.call hb5)
        rw [HF.out]
        clear hb5 HPz HCA
        have HZ := Aside0.mk (blk_new w5 (.cells (boardC (fun _ => z25) 0) 30))
        have HP6 := Aside0.mk ((HP5.out.alloc (.cells (boardC (fun _ => z25) 0) 30)).setRow (i := 0) rfl (boardC f m))
        clear HP5
        go_wp2_with (first | (refine wpList_store_row rfl 30 (.tmp 11) (.tmp 54) rfl (w5.heap.size) (boardC f m) rfl rfl 30 _ HZ.out (HI _ _).out (by rw [boardC_size, boardC_size]) (HO _ _).out ?_))
        clear HZ
        generalize (w5.alloc (.cells (boardC (fun _ => z25) 0) 30)).setRow w5.heap.size (boardC f m) = w6 at *
        generalize w5.heap.size = ga at *
        have HCB : Aside0 (k25.C w6 (some ⟨g, 0, none⟩) m (listF h m)) := ⟨HP6.out.fact (i := 0) rfl⟩
        refine (new_any (some ⟨g, 0, none⟩) m dm (listF h m) _ HCB.out HDM.out H48.out).mono ?_
        rintro e w7 ⟨rfl, hb7⟩
        have HP7 := Aside0.mk (HP6.out.call hb7)
        rw [HE1.out]
        clear hb7 HP6 HCB
        obtain ⟨i0, hi0, _⟩ := info_parts cell_full
        obtain ⟨mh, hmh⟩ : ∃ mh : Nat, m / 2 = mh := ⟨_, rfl⟩
        have hcut := cut_to (P := Try.prog) 27 25 .i64 Try.underlying27 hi0 Q m d (mh : Int) (by omega) (by omega) HMD.out
        rw [Int.toNat_natCast] at hcut
        have hq2 : Int.tdiv (m : Int) 2 = (mh : Int) := by rw [Int.tdiv_eq_ediv_of_nonneg (by omega)]; omega
        have hq3 : (m : Int) / 2 = (mh : Int) := by omega
        have HQ2 := Aside0.mk (And.intro hq2 hq3)
        have HMQ := Aside0.mk hmh
        have hml1 : (mh : Int) ≤ m := by omega
        have hml0 : (0 : Int) ≤ mh := by omega
        clear hi0 hmh
        have HZ := Aside0.mk (blk_new w7 (.cells (boardC (fun _ => z25) 0) 30))
        have HP8 := Aside0.mk ((HP7.out.alloc (.cells (boardC (fun _ => z25) 0) 30)).setRow (i := 0) rfl (boardC h m))
        clear HP7
        go_wp2_with (first | (refine wpList_store_row rfl 30 (.tmp 13) (.tmp 59) rfl (w7.heap.size) (boardC h m) rfl rfl 30 _ HZ.out (HI _ _).out (by rw [boardC_size, boardC_size]) (HO _ _).out ?_))
        clear HZ
        generalize (w7.alloc (.cells (boardC (fun _ => z25) 0) 30)).setRow w7.heap.size (boardC h m) = w8 at *
        generalize w7.heap.size = gb at *
        clear hcut hq2 hq3 hml1 hml0
        have HCC := Aside0.mk (Ru_C (HP8.out.fact (i := 1) rfl)).2.2
        have htl : (M.take mh).length = mh := by rw [List.length_take, HML.out]; have := HMQ.out; omega
        have HCT : Aside0 (k25.C w8 Q mh (M.take mh)) := ⟨by
          have h1 := HCC.out
          rw [← HML.out] at h1
          have h2 := Kd.C_take (m := mh) h1 (by rw [HML.out]; have := HMQ.out; omega)
          rwa [htl] at h2⟩
        have HMH : Aside0 (mh ≤ 48) := ⟨by have := H48.out; have := HMQ.out; omega⟩
        have KC := Aside0.mk (new_any Q mh d (M.take mh) _ HCT.out (by have := HMD.out; have := HMQ.out; omega) HMH.out)
        obtain ⟨fc, hfc⟩ : ∃ fc, fL (M.take mh) = fc := ⟨_, rfl⟩
        rw [hfc] at KC
        have hha := half_alike M o
        rw [HML.out, HF.out, HMQ.out, hfc] at hha
        have HHA := Aside0.mk hha
        clear HCC htl HCT hfc hha
        refine KC.out.mono ?_
        rintro e w9 ⟨rfl, hb9⟩
        have HP9 := Aside0.mk (HP8.out.call hb9)
        clear hb9 HP8 KC
        have HZ := Aside0.mk (blk_new w9 (.cells (boardC (fun _ => z25) 0) 30))
        have HP10 := Aside0.mk ((HP9.out.alloc (.cells (boardC (fun _ => z25) 0) 30)).setRow (i := 0) rfl (boardC fc mh))
        clear HP9
        go_wp2_with (first | (refine wpList_store_row rfl 30 (.tmp 15) (.tmp 68) rfl (w9.heap.size) (boardC fc mh) rfl rfl 30 _ HZ.out (HI _ _).out (by rw [boardC_size, boardC_size]) (HO _ _).out ?_))
        clear HZ
        generalize (w9.alloc (.cells (boardC (fun _ => z25) 0) 30)).setRow w9.heap.size (boardC fc mh) = w10 at *
        generalize w9.heap.size = gc at *
        have eM : listF f m = M := by rw [← HF.out, ← HML.out, listF_fL]
        have hOK : ∀ i, i < m → U32 (f i).f1 := fun i hi => by
          have hiM : i < M.length := by rw [HML.out]; exact hi
          rw [← HF.out, fL_get hiM]; exact (HOK.out _ (List.getElem_mem hiM)).u32
        have hOKh : ∀ i, i < m → U32 (h i).f1 := fun i hi => by rw [← HH.out, altF_f1]; exact hOK i hi
        have hVo : ∀ i, i < m → viewF h m o i = viewF f m o i := fun i hi => by rw [← HH.out]; exact altF_view f vs o m i hi
        have hout : ∀ i, ¬ i < m → f i = h i := fun i hi => by rw [← HH.out]; unfold altF; rw [if_neg (fun hh => hi hh.1)]
        have E1 : sameB (viewF f m o) (viewF h m o) m m = true := (sameB_iff _ _ _ _).2 ⟨fun j _ => by
          by_cases hj : j < m
          · exact (hVo j hj).symm
          · rw [view_out _ _ _ _ hj, view_out _ _ _ _ hj, hout j hj], rfl⟩
        have E2 := same_lists (viewF f m p) (viewF h m p) m H48.out (fun j hj => by rw [view_out _ _ _ _ hj, view_out _ _ _ _ hj, hout j hj])
        rw [← toR_view, ← toR_view, eM] at E2
        have E3 : sumB true (listF (viewF h m o) m) = sumB true (listF (viewF f m o) m) := by rw [listF_congr hVo]
        have E4 : sumB false (listF (viewF h m p) m) = sumB false (listF f m) := by
          unfold sumB
          rw [bytes_labels (M := listF f m)]
          unfold listF
          rw [List.map_map, List.map_map]
          refine List.map_congr_left fun j _ => ?_
          simp only [Function.comp]
          rw [view_f1, ← HH.out, altF_f1]
        have KHA := Aside0.mk (fun X : World => hash_any (viewF f m o) m X H48.out (fun i hi => by rw [view_f1]; exact hOK i hi))
        have KHB := Aside0.mk (fun X : World => hash_any (viewF h m o) m X H48.out (fun i hi => by rw [view_f1]; exact hOKh i hi))
        have KLA := Aside0.mk (fun X : World => labels_any f m X H48.out hOK)
        have KLB := Aside0.mk (fun X : World => labels_any (viewF h m p) m X H48.out (fun i hi => by rw [view_f1]; exact hOKh i hi))
        rw [E3] at KHB
        rw [E4] at KLB
        generalize sumB true (listF (viewF f m o) m) = hA at *
        generalize sumB false (listF f m) = lA at *
        have KA1 := Aside0.mk (fun X : World => alike_any f h m m o X H48.out H48.out)
        rw [E1] at KA1
        have KA2 := Aside0.mk (fun X : World => alike_any f h m m p X H48.out H48.out)
        have KA3 := Aside0.mk (fun X : World => alike_any f fc m mh o X H48.out HMH.out)
        rw [HHA.out] at KA3
        have hU1 : ∀ x ∈ M.map toR, U32 x.f1 := fun x hx => by
          obtain ⟨y, hy, rfl⟩ := List.mem_map.1 hx
          exact (HOK.out y hy).u32
        have hU2 : ∀ x ∈ (listF h m).map toR, U32 x.f1 := fun x hx => by
          obtain ⟨y, hy, rfl⟩ := List.mem_map.1 hx
          unfold listF at hy
          obtain ⟨i, hi, rfl⟩ := List.mem_map.1 hy
          exact hOKh i (List.mem_range.1 hi)
        have hX1 : ((M.map toR).map (viewR p)).length = m := by simp [HML.out]
        have hX2 : (((listF h m).map toR).map (viewR p)).length = m := by simp [listF_length]
        have HUU := Aside0.mk (And.intro hU1 (And.intro hU2 (And.intro hX1 hX2)))
        have HE1' := Aside0.mk E1
        have HE2 := Aside0.mk E2
        obtain ⟨β, hβ⟩ : ∃ β, sameB (viewF f m p) (viewF h m p) m m = β := ⟨_, rfl⟩
        rw [hβ] at KA2 HE2
        obtain ⟨δ, hδ⟩ : ∃ δ, ((m : Int) == (mh : Int)) = δ := ⟨_, rfl⟩
        rw [hδ] at KA3
        have HDD := Aside0.mk hδ
        clear E1 E2 E3 E4 eM hOK hOKh hVo hout hU1 hU2 hX1 hX2 hβ hδ
        go_wp2_with fail
        refine region_grown (W := w10)
          [fun (w : World) (v : Value) => v = .agg (boardC f m),
   fun (w : World) (v : Value) => v = .agg (boardC h m),
   fun (w : World) (v : Value) => v = .int .i64 o,
   fun (w : World) (v : Value) => v = .bool true,
   fun (w : World) (v : Value) => v = .bool true,
   fun (w : World) (v : Value) => v = .agg (boardC f m),
   fun (w : World) (v : Value) => v = .agg (boardC h m),
   fun (w : World) (v : Value) => v = .int .i64 p,
   fun (w : World) (v : Value) => v = .bool β,
   fun (w : World) (v : Value) => v = .slice Q m d,
   fun (w : World) (v : Value) => ∃ A c, v = .slice A m c ∧ m ≤ c ∧ k52.C w A m (M.map toR),
   fun (w : World) (v : Value) => v = .int .i64 p,
   fun (w : World) (v : Value) => ∃ A c, v = .slice A m c ∧ m ≤ c ∧ k52.C w A m ((M.map toR).map (viewR p)),
   fun (w : World) (v : Value) => v = .slice (some ⟨g, 0, none⟩) m dm,
   fun (w : World) (v : Value) => ∃ A c, v = .slice A m c ∧ m ≤ c ∧ k52.C w A m ((listF h m).map toR),
   fun (w : World) (v : Value) => v = .int .i64 p,
   fun (w : World) (v : Value) => ∃ A c, v = .slice A m c ∧ m ≤ c ∧ k52.C w A m (((listF h m).map toR).map (viewR p)),
   fun (w : World) (v : Value) => v = .bool β,
   fun (w : World) (v : Value) => v = .bool true,
   fun (w : World) (v : Value) => v = .bool true,
   fun (w : World) (v : Value) => v = .bool true,
   fun (w : World) (v : Value) => v = .agg (boardC f m),
   fun (w : World) (v : Value) => v = .int .i64 o,
   fun (w : World) (v : Value) => v = .agg (boardC (viewF f m o) m),
   fun (w : World) (v : Value) => v = .int .i64 o,
   fun (w : World) (v : Value) => v = .agg (boardC (viewF (viewF f m o) m o) m),
   fun (w : World) (v : Value) => v = .agg (boardC f m),
   fun (w : World) (v : Value) => v = .int .i64 o,
   fun (w : World) (v : Value) => v = .agg (boardC (viewF f m o) m),
   fun (w : World) (v : Value) => v = .bool true,
   fun (w : World) (v : Value) => v = .bool true,
   fun (w : World) (v : Value) => v = .bool true,
   fun (w : World) (v : Value) => v = .agg (boardC f m),
   fun (w : World) (v : Value) => v = .int .i64 o,
   fun (w : World) (v : Value) => v = .agg (boardC (viewF f m o) m),
   fun (w : World) (v : Value) => v = .agg (boardC h m),
   fun (w : World) (v : Value) => v = .int .i64 o,
   fun (w : World) (v : Value) => v = .agg (boardC (viewF h m o) m),
   fun (w : World) (v : Value) => v = .bool true,
   fun (w : World) (v : Value) => v = .bool true,
   fun (w : World) (v : Value) => v = .bool true,
   fun (w : World) (v : Value) => v = .agg (boardC f m),
   fun (w : World) (v : Value) => v = .int .i64 o,
   fun (w : World) (v : Value) => v = .agg (boardC (viewF f m o) m),
   fun (w : World) (v : Value) => v = .int .u32 hA,
   fun (w : World) (v : Value) => v = .agg (boardC h m),
   fun (w : World) (v : Value) => v = .int .i64 o,
   fun (w : World) (v : Value) => v = .agg (boardC (viewF h m o) m),
   fun (w : World) (v : Value) => v = .int .u32 hA,
   fun (w : World) (v : Value) => v = .bool true,
   fun (w : World) (v : Value) => v = .bool true,
   fun (w : World) (v : Value) => v = .bool true,
   fun (w : World) (v : Value) => v = .agg (boardC f m),
   fun (w : World) (v : Value) => v = .agg (boardC fc mh),
   fun (w : World) (v : Value) => v = .int .i64 o,
   fun (w : World) (v : Value) => v = .bool δ,
   fun (w : World) (v : Value) => v = .slice Q m d,
   fun (w : World) (v : Value) => v = .int .i64 m,
   fun (w : World) (v : Value) => v = .slice Q m d,
   fun (w : World) (v : Value) => v = .int .i64 m,
   fun (w : World) (v : Value) => v = .int .i64 mh,
   fun (w : World) (v : Value) => v = .bool δ,
   fun (w : World) (v : Value) => v = .bool true,
   fun (w : World) (v : Value) => v = .bool true,
   fun (w : World) (v : Value) => v = .bool true,
   fun (w : World) (v : Value) => v = .agg (boardC f m),
   fun (w : World) (v : Value) => v = .int .u32 lA,
   fun (w : World) (v : Value) => v = .agg (boardC h m),
   fun (w : World) (v : Value) => v = .int .i64 p,
   fun (w : World) (v : Value) => v = .agg (boardC (viewF h m p) m),
   fun (w : World) (v : Value) => v = .int .u32 lA,
   fun (w : World) (v : Value) => v = .bool true,
   fun (w : World) (v : Value) => v = .bool true,
   fun (w : World) (v : Value) => v = .bool true]
          (fun j => if j = 4 then some true else if j = 20 then some true else if j = 31 then some true else if j = 40 then some true else if j = 51 then some true else if j = 64 then some true else none)
          [(0, some 70), (1, some 71), (2, some 72), (3, some 73), (4, some 74), (5, some 75), (6, some 76), (7, some 77), (8, some 78), (9, some 79), (10, some 80), (11, some 81), (12, some 82), (13, some 83), (14, some 84), (15, some 85), (16, some 86), (17, some 87), (18, some 88), (19, some 89), (20, some 90), (21, some 91), (22, some 92), (23, some 93), (24, some 94), (25, some 95), (26, some 96), (27, some 97), (28, some 98), (29, some 99), (30, some 100), (31, some 101), (32, some 102), (33, some 103), (34, some 104), (35, some 105), (36, some 106), (37, some 107), (38, some 108), (39, some 109), (40, some 110), (41, some 111), (42, some 112), (43, some 113), (44, some 114), (45, some 115), (46, some 116), (47, some 117), (48, some 118), (49, some 119), (50, some 120), (51, some 121), (52, some 122), (53, some 123), (54, some 124), (55, some 125), (56, some 126), (57, some 127), (58, some 128), (59, some 129), (60, some 130), (61, some 131), (62, some 132), (63, some 133), (64, some 134), (65, some 135), (66, some 136), (67, some 137), (68, some 138), (69, some 139), (70, some 140), (71, some 141), (72, some 142), (73, some 8)]
          [4, 20, 31, 40, 51, 64]
          (by kernel_rfl) (by kernel_rfl) (by kernel_rfl) (by kernel_rfl) ?r14_2g ?r14_2s ⟨?r14_2o0, ?r14_2o1, ?r14_2o2, ?r14_2o3, ?r14_2o4, ?r14_2o5, ?r14_2o6, ?r14_2o7, ?r14_2o8, ?r14_2o9, ?r14_2o10, ?r14_2o11, ?r14_2o12, ?r14_2o13, ?r14_2o14, ?r14_2o15, ?r14_2o16, ?r14_2o17, ?r14_2o18, ?r14_2o19, ?r14_2o20, ?r14_2o21, ?r14_2o22, ?r14_2o23, ?r14_2o24, ?r14_2o25, ?r14_2o26, ?r14_2o27, ?r14_2o28, ?r14_2o29, ?r14_2o30, ?r14_2o31, ?r14_2o32, ?r14_2o33, ?r14_2o34, ?r14_2o35, ?r14_2o36, ?r14_2o37, ?r14_2o38, ?r14_2o39, ?r14_2o40, ?r14_2o41, ?r14_2o42, ?r14_2o43, ?r14_2o44, ?r14_2o45, ?r14_2o46, ?r14_2o47, ?r14_2o48, ?r14_2o49, ?r14_2o50, ?r14_2o51, ?r14_2o52, ?r14_2o53, ?r14_2o54, ?r14_2o55, ?r14_2o56, ?r14_2o57, ?r14_2o58, ?r14_2o59, ?r14_2o60, ?r14_2o61, ?r14_2o62, ?r14_2o63, ?r14_2o64, ?r14_2o65, ?r14_2o66, ?r14_2o67, ?r14_2o68, ?r14_2o69, ?r14_2o70, ?r14_2o71, ?r14_2o72, ?r14_2o73, trivial⟩ ?r14_2e
        case r14_2g =>
          intro j hj w v hv
          simp only [List.mem_cons, List.not_mem_nil, or_false] at hj
          rcases hj with rfl | rfl | rfl | rfl | rfl | rfl
          · have hv' : v = .bool true := hv; rw [hv']; rfl
          · have hv' : v = .bool true := hv; rw [hv']; rfl
          · have hv' : v = .bool true := hv; rw [hv']; rfl
          · have hv' : v = .bool true := hv; rw [hv']; rfl
          · have hv' : v = .bool true := hv; rw [hv']; rfl
          · have hv' : v = .bool true := hv; rw [hv']; rfl
        case r14_2s =>
          refine ⟨(fun w w' v hb h => h), (fun w w' v hb h => h), (fun w w' v hb h => h), (fun w w' v hb h => h), (fun w w' v hb h => h), (fun w w' v hb h => h), (fun w w' v hb h => h), (fun w w' v hb h => h), (fun w w' v hb h => h), (fun w w' v hb h => h), (fun w w' v hb h => let ⟨A, c, h1, h2, h3⟩ := h; ⟨A, c, h1, h2, Kd.C_below h3 hb⟩), (fun w w' v hb h => h), (fun w w' v hb h => let ⟨A, c, h1, h2, h3⟩ := h; ⟨A, c, h1, h2, Kd.C_below h3 hb⟩), (fun w w' v hb h => h), (fun w w' v hb h => let ⟨A, c, h1, h2, h3⟩ := h; ⟨A, c, h1, h2, Kd.C_below h3 hb⟩), (fun w w' v hb h => h), (fun w w' v hb h => let ⟨A, c, h1, h2, h3⟩ := h; ⟨A, c, h1, h2, Kd.C_below h3 hb⟩), (fun w w' v hb h => h), (fun w w' v hb h => h), (fun w w' v hb h => h), (fun w w' v hb h => h), (fun w w' v hb h => h), (fun w w' v hb h => h), (fun w w' v hb h => h), (fun w w' v hb h => h), (fun w w' v hb h => h), (fun w w' v hb h => h), (fun w w' v hb h => h), (fun w w' v hb h => h), (fun w w' v hb h => h), (fun w w' v hb h => h), (fun w w' v hb h => h), (fun w w' v hb h => h), (fun w w' v hb h => h), (fun w w' v hb h => h), (fun w w' v hb h => h), (fun w w' v hb h => h), (fun w w' v hb h => h), (fun w w' v hb h => h), (fun w w' v hb h => h), (fun w w' v hb h => h), (fun w w' v hb h => h), (fun w w' v hb h => h), (fun w w' v hb h => h), (fun w w' v hb h => h), (fun w w' v hb h => h), (fun w w' v hb h => h), (fun w w' v hb h => h), (fun w w' v hb h => h), (fun w w' v hb h => h), (fun w w' v hb h => h), (fun w w' v hb h => h), (fun w w' v hb h => h), (fun w w' v hb h => h), (fun w w' v hb h => h), (fun w w' v hb h => h), (fun w w' v hb h => h), (fun w w' v hb h => h), (fun w w' v hb h => h), (fun w w' v hb h => h), (fun w w' v hb h => h), (fun w w' v hb h => h), (fun w w' v hb h => h), (fun w w' v hb h => h), (fun w w' v hb h => h), (fun w w' v hb h => h), (fun w w' v hb h => h), (fun w w' v hb h => h), (fun w w' v hb h => h), (fun w w' v hb h => h), (fun w w' v hb h => h), (fun w w' v hb h => h), (fun w w' v hb h => h), (fun w w' v hb h => h), trivial⟩
        case r14_2o0 =>
          intro vs w hb hV
          rw [if_pos (by kernel_rfl)]
          generalize hρ : rho _ _ _ vs = ρ
          have e11 : ρ (.tmp 11) = .pointer (some ⟨ga, 0, none⟩) := by rw [← hρ]; kernel_rfl
          clear hρ hV
          exact runs_load 30 (.tmp 11) rfl ga e11 30 (boardC f m) (0, 0) _ (((hb.block ga (blk_lt (HP10.out.get (i := 2) rfl))).trans (HP10.out.get (i := 2) rfl))) Try.underlying30 rfl (HI _ _).out ⟨Below.refl _ _, rfl⟩
        case r14_2o1 =>
          intro vs w hb hV
          rw [if_pos (by kernel_rfl)]
          generalize hρ : rho _ _ _ vs = ρ
          have e13 : ρ (.tmp 13) = .pointer (some ⟨gb, 0, none⟩) := by rw [← hρ]; kernel_rfl
          clear hρ hV
          exact runs_load 30 (.tmp 13) rfl gb e13 30 (boardC h m) (0, 0) _ (((hb.block gb (blk_lt (HP10.out.get (i := 1) rfl))).trans (HP10.out.get (i := 1) rfl))) Try.underlying30 rfl (HI _ _).out ⟨Below.refl _ _, rfl⟩
        case r14_2o2 =>
          intro vs w hb hV
          rw [if_pos (by kernel_rfl)]
          generalize hρ : rho _ _ _ vs = ρ
          have e2 : ρ (.tmp 2) = .int .i64 o := by rw [← hρ]; kernel_rfl
          clear hρ hV
          refine runs_val (v := .int .i64 o) (w' := w) ?_ ⟨Below.refl _ _, rfl⟩
          go_simp <;> (first | exact IntWalk.u64_in _ (by omega) | exact IntWalk.u32_in _ (by omega) | exact IntWalk.u16_in _ (by omega) | exact IntWalk.u8_in _ (by omega) | exact IntWalk.i64_in _ (by omega) | skip)
        case r14_2o3 =>
          intro vs w hb hV
          rw [if_pos (by kernel_rfl)]
          generalize hρ : rho _ _ _ vs = ρ
          have d70 : (vs 0) = .agg (boardC f m) := hV 0 (by kernel_rfl)
          have e70 : ρ (.tmp 70) = vs 0 := by rw [← hρ]; kernel_rfl
          rw [d70] at e70; clear d70
          have d71 : (vs 1) = .agg (boardC h m) := hV 1 (by kernel_rfl)
          have e71 : ρ (.tmp 71) = vs 1 := by rw [← hρ]; kernel_rfl
          rw [d71] at e71; clear d71
          have d72 : (vs 2) = .int .i64 o := hV 2 (by kernel_rfl)
          have e72 : ρ (.tmp 72) = vs 2 := by rw [← hρ]; kernel_rfl
          rw [d72] at e72; clear d72
          have ef24 : ρ (.func 24) = .func (.func 24) #[] #[] := by rw [← hρ]; rfl
          clear hρ hV
          refine runs_call (f := 24) (args := #[.agg (boardC f m), .agg (boardC h m), .int .i64 o]) (w' := w) ?_ ?_
          · go_simp
          · refine (KA1.out _).mono ?_
            rintro e w5 ⟨rfl, hb5⟩
            exact ⟨_, rfl, hb5, rfl⟩
        case r14_2o4 =>
          intro vs w hb hV
          rw [if_pos (by kernel_rfl)]
          generalize hρ : rho _ _ _ vs = ρ
          have d73 : (vs 3) = .bool true := hV 3 (by kernel_rfl)
          have e73 : ρ (.tmp 73) = vs 3 := by rw [← hρ]; kernel_rfl
          clear hρ hV
          refine runs_val (v := vs 3) (w' := w) ?_ ⟨Below.refl _ _, d73⟩
          go_simp
        case r14_2o5 =>
          intro vs w hb hV
          rw [if_pos (by kernel_rfl)]
          generalize hρ : rho _ _ _ vs = ρ
          have e11 : ρ (.tmp 11) = .pointer (some ⟨ga, 0, none⟩) := by rw [← hρ]; kernel_rfl
          clear hρ hV
          exact runs_load 30 (.tmp 11) rfl ga e11 30 (boardC f m) (0, 0) _ (((hb.block ga (blk_lt (HP10.out.get (i := 2) rfl))).trans (HP10.out.get (i := 2) rfl))) Try.underlying30 rfl (HI _ _).out ⟨Below.refl _ _, rfl⟩
        case r14_2o6 =>
          intro vs w hb hV
          rw [if_pos (by kernel_rfl)]
          generalize hρ : rho _ _ _ vs = ρ
          have e13 : ρ (.tmp 13) = .pointer (some ⟨gb, 0, none⟩) := by rw [← hρ]; kernel_rfl
          clear hρ hV
          exact runs_load 30 (.tmp 13) rfl gb e13 30 (boardC h m) (0, 0) _ (((hb.block gb (blk_lt (HP10.out.get (i := 1) rfl))).trans (HP10.out.get (i := 1) rfl))) Try.underlying30 rfl (HI _ _).out ⟨Below.refl _ _, rfl⟩
        case r14_2o7 =>
          intro vs w hb hV
          rw [if_pos (by kernel_rfl)]
          generalize hρ : rho _ _ _ vs = ρ
          have e3 : ρ (.tmp 3) = .int .i64 p := by rw [← hρ]; kernel_rfl
          clear hρ hV
          refine runs_val (v := .int .i64 p) (w' := w) ?_ ⟨Below.refl _ _, rfl⟩
          go_simp <;> (first | exact IntWalk.u64_in _ (by omega) | exact IntWalk.u32_in _ (by omega) | exact IntWalk.u16_in _ (by omega) | exact IntWalk.u8_in _ (by omega) | exact IntWalk.i64_in _ (by omega) | skip)
        case r14_2o8 =>
          intro vs w hb hV
          rw [if_pos (by kernel_rfl)]
          generalize hρ : rho _ _ _ vs = ρ
          have d75 : (vs 5) = .agg (boardC f m) := hV 5 (by kernel_rfl)
          have e75 : ρ (.tmp 75) = vs 5 := by rw [← hρ]; kernel_rfl
          rw [d75] at e75; clear d75
          have d76 : (vs 6) = .agg (boardC h m) := hV 6 (by kernel_rfl)
          have e76 : ρ (.tmp 76) = vs 6 := by rw [← hρ]; kernel_rfl
          rw [d76] at e76; clear d76
          have d77 : (vs 7) = .int .i64 p := hV 7 (by kernel_rfl)
          have e77 : ρ (.tmp 77) = vs 7 := by rw [← hρ]; kernel_rfl
          rw [d77] at e77; clear d77
          have ef24 : ρ (.func 24) = .func (.func 24) #[] #[] := by rw [← hρ]; rfl
          clear hρ hV
          refine runs_call (f := 24) (args := #[.agg (boardC f m), .agg (boardC h m), .int .i64 p]) (w' := w) ?_ ?_
          · go_simp
          · refine (KA2.out _).mono ?_
            rintro e w5 ⟨rfl, hb5⟩
            exact ⟨_, rfl, hb5, rfl⟩
        case r14_2o9 =>
          intro vs w hb hV
          rw [if_pos (by kernel_rfl)]
          generalize hρ : rho _ _ _ vs = ρ
          have e0 : ρ (.tmp 0) = .slice Q m d := by rw [← hρ]; kernel_rfl
          clear hρ hV
          refine runs_val (v := .slice Q m d) (w' := w) ?_ ⟨Below.refl _ _, rfl⟩
          go_simp <;> (first | exact IntWalk.u64_in _ (by omega) | exact IntWalk.u32_in _ (by omega) | exact IntWalk.u16_in _ (by omega) | exact IntWalk.u8_in _ (by omega) | exact IntWalk.i64_in _ (by omega) | skip)
        case r14_2o10 =>
          intro vs w hb hV
          rw [if_pos (by kernel_rfl)]
          generalize hρ : rho _ _ _ vs = ρ
          have d79 : (vs 9) = .slice Q m d := hV 9 (by kernel_rfl)
          have e79 : ρ (.tmp 79) = vs 9 := by rw [← hρ]; kernel_rfl
          rw [d79] at e79; clear d79
          have ef20 : ρ (.func 20) = .func (.func 20) #[] #[] := by rw [← hρ]; rfl
          clear hρ hV
          refine runs_call (f := 20) (args := #[.slice Q m d]) (w' := w) ?_ ?_
          · go_simp
          · refine (own_any Q m d M _ (Kd.C_below (Ru_C (HP10.out.fact (i := 1) rfl)).2.2 hb) HMD.out (by have := H48.out; omega)).mono ?_
            rintro e w5 ⟨v, rfl, hv, hb5⟩
            obtain ⟨A1, c1, e1, e2, e3⟩ := Kd.R_reads hv
            rw [List.length_map, HML.out] at e1 e2 e3
            exact ⟨_, rfl, hb5, A1, c1, e1, e2, e3⟩
        case r14_2o11 =>
          intro vs w hb hV
          rw [if_pos (by kernel_rfl)]
          generalize hρ : rho _ _ _ vs = ρ
          have e3 : ρ (.tmp 3) = .int .i64 p := by rw [← hρ]; kernel_rfl
          clear hρ hV
          refine runs_val (v := .int .i64 p) (w' := w) ?_ ⟨Below.refl _ _, rfl⟩
          go_simp <;> (first | exact IntWalk.u64_in _ (by omega) | exact IntWalk.u32_in _ (by omega) | exact IntWalk.u16_in _ (by omega) | exact IntWalk.u8_in _ (by omega) | exact IntWalk.i64_in _ (by omega) | skip)
        case r14_2o12 =>
          intro vs w hb hV
          rw [if_pos (by kernel_rfl)]
          generalize hρ : rho _ _ _ vs = ρ
          have d80 : (fun (w : World) (v : Value) => ∃ A c, v = .slice A m c ∧ m ≤ c ∧ k52.C w A m (M.map toR)) w (vs 10) := hV 10 (by kernel_rfl)
          have e80 : ρ (.tmp 80) = vs 10 := by rw [← hρ]; kernel_rfl
          obtain ⟨A80, c80, h80, hc80, hC80⟩ := d80
          have d81 : (vs 11) = .int .i64 p := hV 11 (by kernel_rfl)
          have e81 : ρ (.tmp 81) = vs 11 := by rw [← hρ]; kernel_rfl
          rw [d81] at e81; clear d81
          have ef25 : ρ (.func 25) = .func (.func 25) #[] #[] := by rw [← hρ]; rfl
          clear hρ hV
          rw [h80] at e80
          refine runs_call (f := 25) (args := #[.slice A80 m c80, .int .i64 p]) (w' := w) ?_ ?_
          · go_simp
          · refine (refview_any A80 m c80 (M.map toR) p _ hC80 hc80 (by have := H48.out; omega) HUU.out.1).mono ?_
            rintro e w5 ⟨v, rfl, hv, hb5⟩
            obtain ⟨A1, c1, e1, e2, e3⟩ := Kd.R_reads hv
            rw [HUU.out.2.2.1] at e1 e2 e3
            exact ⟨_, rfl, hb5, A1, c1, e1, e2, e3⟩
        case r14_2o13 =>
          intro vs w hb hV
          rw [if_pos (by kernel_rfl)]
          generalize hρ : rho _ _ _ vs = ρ
          have e9 : ρ (.tmp 9) = .slice (some ⟨g, 0, none⟩) m dm := by rw [← hρ]; kernel_rfl
          clear hρ hV
          refine runs_val (v := .slice (some ⟨g, 0, none⟩) m dm) (w' := w) ?_ ⟨Below.refl _ _, rfl⟩
          go_simp <;> (first | exact IntWalk.u64_in _ (by omega) | exact IntWalk.u32_in _ (by omega) | exact IntWalk.u16_in _ (by omega) | exact IntWalk.u8_in _ (by omega) | exact IntWalk.i64_in _ (by omega) | skip)
        case r14_2o14 =>
          intro vs w hb hV
          rw [if_pos (by kernel_rfl)]
          generalize hρ : rho _ _ _ vs = ρ
          have d83 : (vs 13) = .slice (some ⟨g, 0, none⟩) m dm := hV 13 (by kernel_rfl)
          have e83 : ρ (.tmp 83) = vs 13 := by rw [← hρ]; kernel_rfl
          rw [d83] at e83; clear d83
          have ef20 : ρ (.func 20) = .func (.func 20) #[] #[] := by rw [← hρ]; rfl
          clear hρ hV
          refine runs_call (f := 20) (args := #[.slice (some ⟨g, 0, none⟩) m dm]) (w' := w) ?_ ?_
          · go_simp
          · refine (own_any (some ⟨g, 0, none⟩) m dm (listF h m) _ (Kd.C_below (HP10.out.fact (i := 0) rfl) hb) HDM.out (by have := H48.out; omega)).mono ?_
            rintro e w5 ⟨v, rfl, hv, hb5⟩
            obtain ⟨A1, c1, e1, e2, e3⟩ := Kd.R_reads hv
            rw [List.length_map, listF_length] at e1 e2 e3
            exact ⟨_, rfl, hb5, A1, c1, e1, e2, e3⟩
        case r14_2o15 =>
          intro vs w hb hV
          rw [if_pos (by kernel_rfl)]
          generalize hρ : rho _ _ _ vs = ρ
          have e3 : ρ (.tmp 3) = .int .i64 p := by rw [← hρ]; kernel_rfl
          clear hρ hV
          refine runs_val (v := .int .i64 p) (w' := w) ?_ ⟨Below.refl _ _, rfl⟩
          go_simp <;> (first | exact IntWalk.u64_in _ (by omega) | exact IntWalk.u32_in _ (by omega) | exact IntWalk.u16_in _ (by omega) | exact IntWalk.u8_in _ (by omega) | exact IntWalk.i64_in _ (by omega) | skip)
        case r14_2o16 =>
          intro vs w hb hV
          rw [if_pos (by kernel_rfl)]
          generalize hρ : rho _ _ _ vs = ρ
          have d84 : (fun (w : World) (v : Value) => ∃ A c, v = .slice A m c ∧ m ≤ c ∧ k52.C w A m ((listF h m).map toR)) w (vs 14) := hV 14 (by kernel_rfl)
          have e84 : ρ (.tmp 84) = vs 14 := by rw [← hρ]; kernel_rfl
          obtain ⟨A84, c84, h84, hc84, hC84⟩ := d84
          have d85 : (vs 15) = .int .i64 p := hV 15 (by kernel_rfl)
          have e85 : ρ (.tmp 85) = vs 15 := by rw [← hρ]; kernel_rfl
          rw [d85] at e85; clear d85
          have ef25 : ρ (.func 25) = .func (.func 25) #[] #[] := by rw [← hρ]; rfl
          clear hρ hV
          rw [h84] at e84
          refine runs_call (f := 25) (args := #[.slice A84 m c84, .int .i64 p]) (w' := w) ?_ ?_
          · go_simp
          · refine (refview_any A84 m c84 ((listF h m).map toR) p _ hC84 hc84 (by have := H48.out; omega) HUU.out.2.1).mono ?_
            rintro e w5 ⟨v, rfl, hv, hb5⟩
            obtain ⟨A1, c1, e1, e2, e3⟩ := Kd.R_reads hv
            rw [HUU.out.2.2.2] at e1 e2 e3
            exact ⟨_, rfl, hb5, A1, c1, e1, e2, e3⟩
        case r14_2o17 =>
          intro vs w hb hV
          rw [if_pos (by kernel_rfl)]
          generalize hρ : rho _ _ _ vs = ρ
          have d82 : (fun (w : World) (v : Value) => ∃ A c, v = .slice A m c ∧ m ≤ c ∧ k52.C w A m ((M.map toR).map (viewR p))) w (vs 12) := hV 12 (by kernel_rfl)
          have e82 : ρ (.tmp 82) = vs 12 := by rw [← hρ]; kernel_rfl
          obtain ⟨A82, c82, h82, hc82, hC82⟩ := d82
          have d86 : (fun (w : World) (v : Value) => ∃ A c, v = .slice A m c ∧ m ≤ c ∧ k52.C w A m (((listF h m).map toR).map (viewR p))) w (vs 16) := hV 16 (by kernel_rfl)
          have e86 : ρ (.tmp 86) = vs 16 := by rw [← hρ]; kernel_rfl
          obtain ⟨A86, c86, h86, hc86, hC86⟩ := d86
          have ef23 : ρ (.func 23) = .func (.func 23) #[] #[] := by rw [← hρ]; rfl
          clear hρ hV
          rw [h82] at e82
          rw [h86] at e86
          refine runs_call (f := 23) (args := #[.slice A82 m c82, .slice A86 m c86]) (w' := w) ?_ ?_
          · go_simp
          · have KQ := csame_any A82 A86 m m c82 c86 _ _ _ hC82 hC86 (by have := H48.out; omega) (by have := H48.out; omega)
            rw [← HE2.out] at KQ
            refine KQ.mono ?_
            rintro e w5 ⟨rfl, hd5⟩
            exact ⟨_, rfl, hd5.below, rfl⟩
        case r14_2o18 =>
          intro vs w hb hV
          rw [if_pos (by kernel_rfl)]
          generalize hρ : rho _ _ _ vs = ρ
          have d78 : (vs 8) = .bool β := hV 8 (by kernel_rfl)
          have e78 : ρ (.tmp 78) = vs 8 := by rw [← hρ]; kernel_rfl
          rw [d78] at e78; clear d78
          have d87 : (vs 17) = .bool β := hV 17 (by kernel_rfl)
          have e87 : ρ (.tmp 87) = vs 17 := by rw [← hρ]; kernel_rfl
          rw [d87] at e87; clear d87
          clear hρ hV
          refine runs_val (v := .bool true) (w' := w) ?_ ⟨Below.refl _ _, rfl⟩
          go_simp <;> (first | exact IntWalk.u64_in _ (by omega) | exact IntWalk.u32_in _ (by omega) | exact IntWalk.u16_in _ (by omega) | exact IntWalk.u8_in _ (by omega) | exact IntWalk.i64_in _ (by omega) | skip)
        case r14_2o19 =>
          intro vs w hb hV
          rw [if_pos (by kernel_rfl)]
          generalize hρ : rho _ _ _ vs = ρ
          have d74 : (vs 4) = .bool true := hV 4 (by kernel_rfl)
          have e74 : ρ (.tmp 74) = vs 4 := by rw [← hρ]; kernel_rfl
          rw [d74] at e74; clear d74
          have d88 : (vs 18) = .bool true := hV 18 (by kernel_rfl)
          have e88 : ρ (.tmp 88) = vs 18 := by rw [← hρ]; kernel_rfl
          rw [d88] at e88; clear d88
          have econ : ∀ v : Value, ρ (.const v) = v := fun v => by rw [← hρ]; rfl
          clear hρ hV
          refine runs_val (v := .bool true) (w' := w) ?_ ⟨Below.refl _ _, rfl⟩
          go_simp <;> (first | exact IntWalk.u64_in _ (by omega) | exact IntWalk.u32_in _ (by omega) | exact IntWalk.u16_in _ (by omega) | exact IntWalk.u8_in _ (by omega) | exact IntWalk.i64_in _ (by omega) | skip)
        case r14_2o20 =>
          intro vs w hb hV
          rw [if_pos (by kernel_rfl)]
          generalize hρ : rho _ _ _ vs = ρ
          have d89 : (vs 19) = .bool true := hV 19 (by kernel_rfl)
          have e89 : ρ (.tmp 89) = vs 19 := by rw [← hρ]; kernel_rfl
          clear hρ hV
          refine runs_val (v := vs 19) (w' := w) ?_ ⟨Below.refl _ _, d89⟩
          go_simp
        case r14_2o21 =>
          intro vs w hb hV
          rw [if_pos (by kernel_rfl)]
          generalize hρ : rho _ _ _ vs = ρ
          have e11 : ρ (.tmp 11) = .pointer (some ⟨ga, 0, none⟩) := by rw [← hρ]; kernel_rfl
          clear hρ hV
          exact runs_load 30 (.tmp 11) rfl ga e11 30 (boardC f m) (0, 0) _ (((hb.block ga (blk_lt (HP10.out.get (i := 2) rfl))).trans (HP10.out.get (i := 2) rfl))) Try.underlying30 rfl (HI _ _).out ⟨Below.refl _ _, rfl⟩
        case r14_2o22 =>
          intro vs w hb hV
          rw [if_pos (by kernel_rfl)]
          generalize hρ : rho _ _ _ vs = ρ
          have e2 : ρ (.tmp 2) = .int .i64 o := by rw [← hρ]; kernel_rfl
          clear hρ hV
          refine runs_val (v := .int .i64 o) (w' := w) ?_ ⟨Below.refl _ _, rfl⟩
          go_simp <;> (first | exact IntWalk.u64_in _ (by omega) | exact IntWalk.u32_in _ (by omega) | exact IntWalk.u16_in _ (by omega) | exact IntWalk.u8_in _ (by omega) | exact IntWalk.i64_in _ (by omega) | skip)
        case r14_2o23 =>
          intro vs w hb hV
          rw [if_pos (by kernel_rfl)]
          generalize hρ : rho _ _ _ vs = ρ
          have d91 : (vs 21) = .agg (boardC f m) := hV 21 (by kernel_rfl)
          have e91 : ρ (.tmp 91) = vs 21 := by rw [← hρ]; kernel_rfl
          rw [d91] at e91; clear d91
          have d92 : (vs 22) = .int .i64 o := hV 22 (by kernel_rfl)
          have e92 : ρ (.tmp 92) = vs 22 := by rw [← hρ]; kernel_rfl
          rw [d92] at e92; clear d92
          have ef26 : ρ (.func 26) = .func (.func 26) #[] #[] := by rw [← hρ]; rfl
          clear hρ hV
          refine runs_call (f := 26) (args := #[.agg (boardC f m), .int .i64 o]) (w' := w) ?_ ?_
          · go_simp
          · refine (view_any f m o _ H48.out).mono ?_
            rintro e w5 ⟨rfl, hb5⟩
            exact ⟨_, rfl, hb5, rfl⟩
        case r14_2o24 =>
          intro vs w hb hV
          rw [if_pos (by kernel_rfl)]
          generalize hρ : rho _ _ _ vs = ρ
          have e2 : ρ (.tmp 2) = .int .i64 o := by rw [← hρ]; kernel_rfl
          clear hρ hV
          refine runs_val (v := .int .i64 o) (w' := w) ?_ ⟨Below.refl _ _, rfl⟩
          go_simp <;> (first | exact IntWalk.u64_in _ (by omega) | exact IntWalk.u32_in _ (by omega) | exact IntWalk.u16_in _ (by omega) | exact IntWalk.u8_in _ (by omega) | exact IntWalk.i64_in _ (by omega) | skip)
        case r14_2o25 =>
          intro vs w hb hV
          rw [if_pos (by kernel_rfl)]
          generalize hρ : rho _ _ _ vs = ρ
          have d93 : (vs 23) = .agg (boardC (viewF f m o) m) := hV 23 (by kernel_rfl)
          have e93 : ρ (.tmp 93) = vs 23 := by rw [← hρ]; kernel_rfl
          rw [d93] at e93; clear d93
          have d94 : (vs 24) = .int .i64 o := hV 24 (by kernel_rfl)
          have e94 : ρ (.tmp 94) = vs 24 := by rw [← hρ]; kernel_rfl
          rw [d94] at e94; clear d94
          have ef26 : ρ (.func 26) = .func (.func 26) #[] #[] := by rw [← hρ]; rfl
          clear hρ hV
          refine runs_call (f := 26) (args := #[.agg (boardC (viewF f m o) m), .int .i64 o]) (w' := w) ?_ ?_
          · go_simp
          · refine (view_any (viewF f m o) m o _ H48.out).mono ?_
            rintro e w5 ⟨rfl, hb5⟩
            exact ⟨_, rfl, hb5, rfl⟩
        case r14_2o26 =>
          intro vs w hb hV
          rw [if_pos (by kernel_rfl)]
          generalize hρ : rho _ _ _ vs = ρ
          have e11 : ρ (.tmp 11) = .pointer (some ⟨ga, 0, none⟩) := by rw [← hρ]; kernel_rfl
          clear hρ hV
          exact runs_load 30 (.tmp 11) rfl ga e11 30 (boardC f m) (0, 0) _ (((hb.block ga (blk_lt (HP10.out.get (i := 2) rfl))).trans (HP10.out.get (i := 2) rfl))) Try.underlying30 rfl (HI _ _).out ⟨Below.refl _ _, rfl⟩
        case r14_2o27 =>
          intro vs w hb hV
          rw [if_pos (by kernel_rfl)]
          generalize hρ : rho _ _ _ vs = ρ
          have e2 : ρ (.tmp 2) = .int .i64 o := by rw [← hρ]; kernel_rfl
          clear hρ hV
          refine runs_val (v := .int .i64 o) (w' := w) ?_ ⟨Below.refl _ _, rfl⟩
          go_simp <;> (first | exact IntWalk.u64_in _ (by omega) | exact IntWalk.u32_in _ (by omega) | exact IntWalk.u16_in _ (by omega) | exact IntWalk.u8_in _ (by omega) | exact IntWalk.i64_in _ (by omega) | skip)
        case r14_2o28 =>
          intro vs w hb hV
          rw [if_pos (by kernel_rfl)]
          generalize hρ : rho _ _ _ vs = ρ
          have d96 : (vs 26) = .agg (boardC f m) := hV 26 (by kernel_rfl)
          have e96 : ρ (.tmp 96) = vs 26 := by rw [← hρ]; kernel_rfl
          rw [d96] at e96; clear d96
          have d97 : (vs 27) = .int .i64 o := hV 27 (by kernel_rfl)
          have e97 : ρ (.tmp 97) = vs 27 := by rw [← hρ]; kernel_rfl
          rw [d97] at e97; clear d97
          have ef26 : ρ (.func 26) = .func (.func 26) #[] #[] := by rw [← hρ]; rfl
          clear hρ hV
          refine runs_call (f := 26) (args := #[.agg (boardC f m), .int .i64 o]) (w' := w) ?_ ?_
          · go_simp
          · refine (view_any f m o _ H48.out).mono ?_
            rintro e w5 ⟨rfl, hb5⟩
            exact ⟨_, rfl, hb5, rfl⟩
        case r14_2o29 =>
          intro vs w hb hV
          rw [if_pos (by kernel_rfl)]
          generalize hρ : rho _ _ _ vs = ρ
          have d95 : (vs 25) = .agg (boardC (viewF (viewF f m o) m o) m) := hV 25 (by kernel_rfl)
          have e95 : ρ (.tmp 95) = vs 25 := by rw [← hρ]; kernel_rfl
          rw [d95] at e95; clear d95
          have d98 : (vs 28) = .agg (boardC (viewF f m o) m) := hV 28 (by kernel_rfl)
          have e98 : ρ (.tmp 98) = vs 28 := by rw [← hρ]; kernel_rfl
          rw [d98] at e98; clear d98
          clear hρ hV
          have hbe := board_eql (viewF (viewF f m o) m o) (viewF f m o) m m
          rw [view_twice f m o] at hbe
          have hbg := board_guard
          refine runs_val (v := .bool true) (w' := w) ?_ ⟨Below.refl _ _, rfl⟩
          go_simp
        case r14_2o30 =>
          intro vs w hb hV
          rw [if_pos (by kernel_rfl)]
          generalize hρ : rho _ _ _ vs = ρ
          have d90 : (vs 20) = .bool true := hV 20 (by kernel_rfl)
          have e90 : ρ (.tmp 90) = vs 20 := by rw [← hρ]; kernel_rfl
          rw [d90] at e90; clear d90
          have d99 : (vs 29) = .bool true := hV 29 (by kernel_rfl)
          have e99 : ρ (.tmp 99) = vs 29 := by rw [← hρ]; kernel_rfl
          rw [d99] at e99; clear d99
          have econ : ∀ v : Value, ρ (.const v) = v := fun v => by rw [← hρ]; rfl
          clear hρ hV
          refine runs_val (v := .bool true) (w' := w) ?_ ⟨Below.refl _ _, rfl⟩
          go_simp <;> (first | exact IntWalk.u64_in _ (by omega) | exact IntWalk.u32_in _ (by omega) | exact IntWalk.u16_in _ (by omega) | exact IntWalk.u8_in _ (by omega) | exact IntWalk.i64_in _ (by omega) | skip)
        case r14_2o31 =>
          intro vs w hb hV
          rw [if_pos (by kernel_rfl)]
          generalize hρ : rho _ _ _ vs = ρ
          have d100 : (vs 30) = .bool true := hV 30 (by kernel_rfl)
          have e100 : ρ (.tmp 100) = vs 30 := by rw [← hρ]; kernel_rfl
          clear hρ hV
          refine runs_val (v := vs 30) (w' := w) ?_ ⟨Below.refl _ _, d100⟩
          go_simp
        case r14_2o32 =>
          intro vs w hb hV
          rw [if_pos (by kernel_rfl)]
          generalize hρ : rho _ _ _ vs = ρ
          have e11 : ρ (.tmp 11) = .pointer (some ⟨ga, 0, none⟩) := by rw [← hρ]; kernel_rfl
          clear hρ hV
          exact runs_load 30 (.tmp 11) rfl ga e11 30 (boardC f m) (0, 0) _ (((hb.block ga (blk_lt (HP10.out.get (i := 2) rfl))).trans (HP10.out.get (i := 2) rfl))) Try.underlying30 rfl (HI _ _).out ⟨Below.refl _ _, rfl⟩
        case r14_2o33 =>
          intro vs w hb hV
          rw [if_pos (by kernel_rfl)]
          generalize hρ : rho _ _ _ vs = ρ
          have e2 : ρ (.tmp 2) = .int .i64 o := by rw [← hρ]; kernel_rfl
          clear hρ hV
          refine runs_val (v := .int .i64 o) (w' := w) ?_ ⟨Below.refl _ _, rfl⟩
          go_simp <;> (first | exact IntWalk.u64_in _ (by omega) | exact IntWalk.u32_in _ (by omega) | exact IntWalk.u16_in _ (by omega) | exact IntWalk.u8_in _ (by omega) | exact IntWalk.i64_in _ (by omega) | skip)
        case r14_2o34 =>
          intro vs w hb hV
          rw [if_pos (by kernel_rfl)]
          generalize hρ : rho _ _ _ vs = ρ
          have d102 : (vs 32) = .agg (boardC f m) := hV 32 (by kernel_rfl)
          have e102 : ρ (.tmp 102) = vs 32 := by rw [← hρ]; kernel_rfl
          rw [d102] at e102; clear d102
          have d103 : (vs 33) = .int .i64 o := hV 33 (by kernel_rfl)
          have e103 : ρ (.tmp 103) = vs 33 := by rw [← hρ]; kernel_rfl
          rw [d103] at e103; clear d103
          have ef26 : ρ (.func 26) = .func (.func 26) #[] #[] := by rw [← hρ]; rfl
          clear hρ hV
          refine runs_call (f := 26) (args := #[.agg (boardC f m), .int .i64 o]) (w' := w) ?_ ?_
          · go_simp
          · refine (view_any f m o _ H48.out).mono ?_
            rintro e w5 ⟨rfl, hb5⟩
            exact ⟨_, rfl, hb5, rfl⟩
        case r14_2o35 =>
          intro vs w hb hV
          rw [if_pos (by kernel_rfl)]
          generalize hρ : rho _ _ _ vs = ρ
          have e13 : ρ (.tmp 13) = .pointer (some ⟨gb, 0, none⟩) := by rw [← hρ]; kernel_rfl
          clear hρ hV
          exact runs_load 30 (.tmp 13) rfl gb e13 30 (boardC h m) (0, 0) _ (((hb.block gb (blk_lt (HP10.out.get (i := 1) rfl))).trans (HP10.out.get (i := 1) rfl))) Try.underlying30 rfl (HI _ _).out ⟨Below.refl _ _, rfl⟩
        case r14_2o36 =>
          intro vs w hb hV
          rw [if_pos (by kernel_rfl)]
          generalize hρ : rho _ _ _ vs = ρ
          have e2 : ρ (.tmp 2) = .int .i64 o := by rw [← hρ]; kernel_rfl
          clear hρ hV
          refine runs_val (v := .int .i64 o) (w' := w) ?_ ⟨Below.refl _ _, rfl⟩
          go_simp <;> (first | exact IntWalk.u64_in _ (by omega) | exact IntWalk.u32_in _ (by omega) | exact IntWalk.u16_in _ (by omega) | exact IntWalk.u8_in _ (by omega) | exact IntWalk.i64_in _ (by omega) | skip)
        case r14_2o37 =>
          intro vs w hb hV
          rw [if_pos (by kernel_rfl)]
          generalize hρ : rho _ _ _ vs = ρ
          have d105 : (vs 35) = .agg (boardC h m) := hV 35 (by kernel_rfl)
          have e105 : ρ (.tmp 105) = vs 35 := by rw [← hρ]; kernel_rfl
          rw [d105] at e105; clear d105
          have d106 : (vs 36) = .int .i64 o := hV 36 (by kernel_rfl)
          have e106 : ρ (.tmp 106) = vs 36 := by rw [← hρ]; kernel_rfl
          rw [d106] at e106; clear d106
          have ef26 : ρ (.func 26) = .func (.func 26) #[] #[] := by rw [← hρ]; rfl
          clear hρ hV
          refine runs_call (f := 26) (args := #[.agg (boardC h m), .int .i64 o]) (w' := w) ?_ ?_
          · go_simp
          · refine (view_any h m o _ H48.out).mono ?_
            rintro e w5 ⟨rfl, hb5⟩
            exact ⟨_, rfl, hb5, rfl⟩
        case r14_2o38 =>
          intro vs w hb hV
          rw [if_pos (by kernel_rfl)]
          generalize hρ : rho _ _ _ vs = ρ
          have d104 : (vs 34) = .agg (boardC (viewF f m o) m) := hV 34 (by kernel_rfl)
          have e104 : ρ (.tmp 104) = vs 34 := by rw [← hρ]; kernel_rfl
          rw [d104] at e104; clear d104
          have d107 : (vs 37) = .agg (boardC (viewF h m o) m) := hV 37 (by kernel_rfl)
          have e107 : ρ (.tmp 107) = vs 37 := by rw [← hρ]; kernel_rfl
          rw [d107] at e107; clear d107
          clear hρ hV
          have hbe := board_eql (viewF f m o) (viewF h m o) m m
          rw [HE1'.out] at hbe
          have hbg := board_guard
          refine runs_val (v := .bool true) (w' := w) ?_ ⟨Below.refl _ _, rfl⟩
          go_simp
        case r14_2o39 =>
          intro vs w hb hV
          rw [if_pos (by kernel_rfl)]
          generalize hρ : rho _ _ _ vs = ρ
          have d101 : (vs 31) = .bool true := hV 31 (by kernel_rfl)
          have e101 : ρ (.tmp 101) = vs 31 := by rw [← hρ]; kernel_rfl
          rw [d101] at e101; clear d101
          have d108 : (vs 38) = .bool true := hV 38 (by kernel_rfl)
          have e108 : ρ (.tmp 108) = vs 38 := by rw [← hρ]; kernel_rfl
          rw [d108] at e108; clear d108
          have econ : ∀ v : Value, ρ (.const v) = v := fun v => by rw [← hρ]; rfl
          clear hρ hV
          refine runs_val (v := .bool true) (w' := w) ?_ ⟨Below.refl _ _, rfl⟩
          go_simp <;> (first | exact IntWalk.u64_in _ (by omega) | exact IntWalk.u32_in _ (by omega) | exact IntWalk.u16_in _ (by omega) | exact IntWalk.u8_in _ (by omega) | exact IntWalk.i64_in _ (by omega) | skip)
        case r14_2o40 =>
          intro vs w hb hV
          rw [if_pos (by kernel_rfl)]
          generalize hρ : rho _ _ _ vs = ρ
          have d109 : (vs 39) = .bool true := hV 39 (by kernel_rfl)
          have e109 : ρ (.tmp 109) = vs 39 := by rw [← hρ]; kernel_rfl
          clear hρ hV
          refine runs_val (v := vs 39) (w' := w) ?_ ⟨Below.refl _ _, d109⟩
          go_simp
        case r14_2o41 =>
          intro vs w hb hV
          rw [if_pos (by kernel_rfl)]
          generalize hρ : rho _ _ _ vs = ρ
          have e11 : ρ (.tmp 11) = .pointer (some ⟨ga, 0, none⟩) := by rw [← hρ]; kernel_rfl
          clear hρ hV
          exact runs_load 30 (.tmp 11) rfl ga e11 30 (boardC f m) (0, 0) _ (((hb.block ga (blk_lt (HP10.out.get (i := 2) rfl))).trans (HP10.out.get (i := 2) rfl))) Try.underlying30 rfl (HI _ _).out ⟨Below.refl _ _, rfl⟩
        case r14_2o42 =>
          intro vs w hb hV
          rw [if_pos (by kernel_rfl)]
          generalize hρ : rho _ _ _ vs = ρ
          have e2 : ρ (.tmp 2) = .int .i64 o := by rw [← hρ]; kernel_rfl
          clear hρ hV
          refine runs_val (v := .int .i64 o) (w' := w) ?_ ⟨Below.refl _ _, rfl⟩
          go_simp <;> (first | exact IntWalk.u64_in _ (by omega) | exact IntWalk.u32_in _ (by omega) | exact IntWalk.u16_in _ (by omega) | exact IntWalk.u8_in _ (by omega) | exact IntWalk.i64_in _ (by omega) | skip)
        case r14_2o43 =>
          intro vs w hb hV
          rw [if_pos (by kernel_rfl)]
          generalize hρ : rho _ _ _ vs = ρ
          have d111 : (vs 41) = .agg (boardC f m) := hV 41 (by kernel_rfl)
          have e111 : ρ (.tmp 111) = vs 41 := by rw [← hρ]; kernel_rfl
          rw [d111] at e111; clear d111
          have d112 : (vs 42) = .int .i64 o := hV 42 (by kernel_rfl)
          have e112 : ρ (.tmp 112) = vs 42 := by rw [← hρ]; kernel_rfl
          rw [d112] at e112; clear d112
          have ef26 : ρ (.func 26) = .func (.func 26) #[] #[] := by rw [← hρ]; rfl
          clear hρ hV
          refine runs_call (f := 26) (args := #[.agg (boardC f m), .int .i64 o]) (w' := w) ?_ ?_
          · go_simp
          · refine (view_any f m o _ H48.out).mono ?_
            rintro e w5 ⟨rfl, hb5⟩
            exact ⟨_, rfl, hb5, rfl⟩
        case r14_2o44 =>
          intro vs w hb hV
          rw [if_pos (by kernel_rfl)]
          generalize hρ : rho _ _ _ vs = ρ
          have d113 : (vs 43) = .agg (boardC (viewF f m o) m) := hV 43 (by kernel_rfl)
          have e113 : ρ (.tmp 113) = vs 43 := by rw [← hρ]; kernel_rfl
          rw [d113] at e113; clear d113
          have ef27 : ρ (.func 27) = .func (.func 27) #[] #[] := by rw [← hρ]; rfl
          clear hρ hV
          refine runs_call (f := 27) (args := #[.agg (boardC (viewF f m o) m)]) (w' := w) ?_ ?_
          · go_simp
          · refine (KHA.out _).mono ?_
            rintro e w5 ⟨rfl, hb5⟩
            exact ⟨_, rfl, hb5, rfl⟩
        case r14_2o45 =>
          intro vs w hb hV
          rw [if_pos (by kernel_rfl)]
          generalize hρ : rho _ _ _ vs = ρ
          have e13 : ρ (.tmp 13) = .pointer (some ⟨gb, 0, none⟩) := by rw [← hρ]; kernel_rfl
          clear hρ hV
          exact runs_load 30 (.tmp 13) rfl gb e13 30 (boardC h m) (0, 0) _ (((hb.block gb (blk_lt (HP10.out.get (i := 1) rfl))).trans (HP10.out.get (i := 1) rfl))) Try.underlying30 rfl (HI _ _).out ⟨Below.refl _ _, rfl⟩
        case r14_2o46 =>
          intro vs w hb hV
          rw [if_pos (by kernel_rfl)]
          generalize hρ : rho _ _ _ vs = ρ
          have e2 : ρ (.tmp 2) = .int .i64 o := by rw [← hρ]; kernel_rfl
          clear hρ hV
          refine runs_val (v := .int .i64 o) (w' := w) ?_ ⟨Below.refl _ _, rfl⟩
          go_simp <;> (first | exact IntWalk.u64_in _ (by omega) | exact IntWalk.u32_in _ (by omega) | exact IntWalk.u16_in _ (by omega) | exact IntWalk.u8_in _ (by omega) | exact IntWalk.i64_in _ (by omega) | skip)
        case r14_2o47 =>
          intro vs w hb hV
          rw [if_pos (by kernel_rfl)]
          generalize hρ : rho _ _ _ vs = ρ
          have d115 : (vs 45) = .agg (boardC h m) := hV 45 (by kernel_rfl)
          have e115 : ρ (.tmp 115) = vs 45 := by rw [← hρ]; kernel_rfl
          rw [d115] at e115; clear d115
          have d116 : (vs 46) = .int .i64 o := hV 46 (by kernel_rfl)
          have e116 : ρ (.tmp 116) = vs 46 := by rw [← hρ]; kernel_rfl
          rw [d116] at e116; clear d116
          have ef26 : ρ (.func 26) = .func (.func 26) #[] #[] := by rw [← hρ]; rfl
          clear hρ hV
          refine runs_call (f := 26) (args := #[.agg (boardC h m), .int .i64 o]) (w' := w) ?_ ?_
          · go_simp
          · refine (view_any h m o _ H48.out).mono ?_
            rintro e w5 ⟨rfl, hb5⟩
            exact ⟨_, rfl, hb5, rfl⟩
        case r14_2o48 =>
          intro vs w hb hV
          rw [if_pos (by kernel_rfl)]
          generalize hρ : rho _ _ _ vs = ρ
          have d117 : (vs 47) = .agg (boardC (viewF h m o) m) := hV 47 (by kernel_rfl)
          have e117 : ρ (.tmp 117) = vs 47 := by rw [← hρ]; kernel_rfl
          rw [d117] at e117; clear d117
          have ef27 : ρ (.func 27) = .func (.func 27) #[] #[] := by rw [← hρ]; rfl
          clear hρ hV
          refine runs_call (f := 27) (args := #[.agg (boardC (viewF h m o) m)]) (w' := w) ?_ ?_
          · go_simp
          · refine (KHB.out _).mono ?_
            rintro e w5 ⟨rfl, hb5⟩
            exact ⟨_, rfl, hb5, rfl⟩
        case r14_2o49 =>
          intro vs w hb hV
          rw [if_pos (by kernel_rfl)]
          generalize hρ : rho _ _ _ vs = ρ
          have d114 : (vs 44) = .int .u32 hA := hV 44 (by kernel_rfl)
          have e114 : ρ (.tmp 114) = vs 44 := by rw [← hρ]; kernel_rfl
          rw [d114] at e114; clear d114
          have d118 : (vs 48) = .int .u32 hA := hV 48 (by kernel_rfl)
          have e118 : ρ (.tmp 118) = vs 48 := by rw [← hρ]; kernel_rfl
          rw [d118] at e118; clear d118
          clear hρ hV
          refine runs_val (v := .bool true) (w' := w) ?_ ⟨Below.refl _ _, rfl⟩
          go_simp <;> (first | exact IntWalk.u64_in _ (by omega) | exact IntWalk.u32_in _ (by omega) | exact IntWalk.u16_in _ (by omega) | exact IntWalk.u8_in _ (by omega) | exact IntWalk.i64_in _ (by omega) | skip)
        case r14_2o50 =>
          intro vs w hb hV
          rw [if_pos (by kernel_rfl)]
          generalize hρ : rho _ _ _ vs = ρ
          have d110 : (vs 40) = .bool true := hV 40 (by kernel_rfl)
          have e110 : ρ (.tmp 110) = vs 40 := by rw [← hρ]; kernel_rfl
          rw [d110] at e110; clear d110
          have d119 : (vs 49) = .bool true := hV 49 (by kernel_rfl)
          have e119 : ρ (.tmp 119) = vs 49 := by rw [← hρ]; kernel_rfl
          rw [d119] at e119; clear d119
          have econ : ∀ v : Value, ρ (.const v) = v := fun v => by rw [← hρ]; rfl
          clear hρ hV
          refine runs_val (v := .bool true) (w' := w) ?_ ⟨Below.refl _ _, rfl⟩
          go_simp <;> (first | exact IntWalk.u64_in _ (by omega) | exact IntWalk.u32_in _ (by omega) | exact IntWalk.u16_in _ (by omega) | exact IntWalk.u8_in _ (by omega) | exact IntWalk.i64_in _ (by omega) | skip)
        case r14_2o51 =>
          intro vs w hb hV
          rw [if_pos (by kernel_rfl)]
          generalize hρ : rho _ _ _ vs = ρ
          have d120 : (vs 50) = .bool true := hV 50 (by kernel_rfl)
          have e120 : ρ (.tmp 120) = vs 50 := by rw [← hρ]; kernel_rfl
          clear hρ hV
          refine runs_val (v := vs 50) (w' := w) ?_ ⟨Below.refl _ _, d120⟩
          go_simp
        case r14_2o52 =>
          intro vs w hb hV
          rw [if_pos (by kernel_rfl)]
          generalize hρ : rho _ _ _ vs = ρ
          have e11 : ρ (.tmp 11) = .pointer (some ⟨ga, 0, none⟩) := by rw [← hρ]; kernel_rfl
          clear hρ hV
          exact runs_load 30 (.tmp 11) rfl ga e11 30 (boardC f m) (0, 0) _ (((hb.block ga (blk_lt (HP10.out.get (i := 2) rfl))).trans (HP10.out.get (i := 2) rfl))) Try.underlying30 rfl (HI _ _).out ⟨Below.refl _ _, rfl⟩
        case r14_2o53 =>
          intro vs w hb hV
          rw [if_pos (by kernel_rfl)]
          generalize hρ : rho _ _ _ vs = ρ
          have e15 : ρ (.tmp 15) = .pointer (some ⟨gc, 0, none⟩) := by rw [← hρ]; kernel_rfl
          clear hρ hV
          exact runs_load 30 (.tmp 15) rfl gc e15 30 (boardC fc mh) (0, 0) _ (((hb.block gc (blk_lt (HP10.out.get (i := 0) rfl))).trans (HP10.out.get (i := 0) rfl))) Try.underlying30 rfl (HI _ _).out ⟨Below.refl _ _, rfl⟩
        case r14_2o54 =>
          intro vs w hb hV
          rw [if_pos (by kernel_rfl)]
          generalize hρ : rho _ _ _ vs = ρ
          have e2 : ρ (.tmp 2) = .int .i64 o := by rw [← hρ]; kernel_rfl
          clear hρ hV
          refine runs_val (v := .int .i64 o) (w' := w) ?_ ⟨Below.refl _ _, rfl⟩
          go_simp <;> (first | exact IntWalk.u64_in _ (by omega) | exact IntWalk.u32_in _ (by omega) | exact IntWalk.u16_in _ (by omega) | exact IntWalk.u8_in _ (by omega) | exact IntWalk.i64_in _ (by omega) | skip)
        case r14_2o55 =>
          intro vs w hb hV
          rw [if_pos (by kernel_rfl)]
          generalize hρ : rho _ _ _ vs = ρ
          have d122 : (vs 52) = .agg (boardC f m) := hV 52 (by kernel_rfl)
          have e122 : ρ (.tmp 122) = vs 52 := by rw [← hρ]; kernel_rfl
          rw [d122] at e122; clear d122
          have d123 : (vs 53) = .agg (boardC fc mh) := hV 53 (by kernel_rfl)
          have e123 : ρ (.tmp 123) = vs 53 := by rw [← hρ]; kernel_rfl
          rw [d123] at e123; clear d123
          have d124 : (vs 54) = .int .i64 o := hV 54 (by kernel_rfl)
          have e124 : ρ (.tmp 124) = vs 54 := by rw [← hρ]; kernel_rfl
          rw [d124] at e124; clear d124
          have ef24 : ρ (.func 24) = .func (.func 24) #[] #[] := by rw [← hρ]; rfl
          clear hρ hV
          refine runs_call (f := 24) (args := #[.agg (boardC f m), .agg (boardC fc mh), .int .i64 o]) (w' := w) ?_ ?_
          · go_simp
          · refine (KA3.out _).mono ?_
            rintro e w5 ⟨rfl, hb5⟩
            exact ⟨_, rfl, hb5, rfl⟩
        case r14_2o56 =>
          intro vs w hb hV
          rw [if_pos (by kernel_rfl)]
          generalize hρ : rho _ _ _ vs = ρ
          have e0 : ρ (.tmp 0) = .slice Q m d := by rw [← hρ]; kernel_rfl
          clear hρ hV
          refine runs_val (v := .slice Q m d) (w' := w) ?_ ⟨Below.refl _ _, rfl⟩
          go_simp <;> (first | exact IntWalk.u64_in _ (by omega) | exact IntWalk.u32_in _ (by omega) | exact IntWalk.u16_in _ (by omega) | exact IntWalk.u8_in _ (by omega) | exact IntWalk.i64_in _ (by omega) | skip)
        case r14_2o57 =>
          intro vs w hb hV
          rw [if_pos (by kernel_rfl)]
          generalize hρ : rho _ _ _ vs = ρ
          have d126 : (vs 56) = .slice Q m d := hV 56 (by kernel_rfl)
          have e126 : ρ (.tmp 126) = vs 56 := by rw [← hρ]; kernel_rfl
          rw [d126] at e126; clear d126
          clear hρ hV
          refine runs_val (v := .int .i64 m) (w' := w) ?_ ⟨Below.refl _ _, rfl⟩
          go_simp <;> (first | exact IntWalk.u64_in _ (by omega) | exact IntWalk.u32_in _ (by omega) | exact IntWalk.u16_in _ (by omega) | exact IntWalk.u8_in _ (by omega) | exact IntWalk.i64_in _ (by omega) | skip)
        case r14_2o58 =>
          intro vs w hb hV
          rw [if_pos (by kernel_rfl)]
          generalize hρ : rho _ _ _ vs = ρ
          have e0 : ρ (.tmp 0) = .slice Q m d := by rw [← hρ]; kernel_rfl
          clear hρ hV
          refine runs_val (v := .slice Q m d) (w' := w) ?_ ⟨Below.refl _ _, rfl⟩
          go_simp <;> (first | exact IntWalk.u64_in _ (by omega) | exact IntWalk.u32_in _ (by omega) | exact IntWalk.u16_in _ (by omega) | exact IntWalk.u8_in _ (by omega) | exact IntWalk.i64_in _ (by omega) | skip)
        case r14_2o59 =>
          intro vs w hb hV
          rw [if_pos (by kernel_rfl)]
          generalize hρ : rho _ _ _ vs = ρ
          have d128 : (vs 58) = .slice Q m d := hV 58 (by kernel_rfl)
          have e128 : ρ (.tmp 128) = vs 58 := by rw [← hρ]; kernel_rfl
          rw [d128] at e128; clear d128
          clear hρ hV
          refine runs_val (v := .int .i64 m) (w' := w) ?_ ⟨Below.refl _ _, rfl⟩
          go_simp <;> (first | exact IntWalk.u64_in _ (by omega) | exact IntWalk.u32_in _ (by omega) | exact IntWalk.u16_in _ (by omega) | exact IntWalk.u8_in _ (by omega) | exact IntWalk.i64_in _ (by omega) | skip)
        case r14_2o60 =>
          intro vs w hb hV
          rw [if_pos (by kernel_rfl)]
          generalize hρ : rho _ _ _ vs = ρ
          have d129 : (vs 59) = .int .i64 m := hV 59 (by kernel_rfl)
          have e129 : ρ (.tmp 129) = vs 59 := by rw [← hρ]; kernel_rfl
          rw [d129] at e129; clear d129
          have econ : ∀ v : Value, ρ (.const v) = v := fun v => by rw [← hρ]; rfl
          clear hρ hV
          obtain ⟨hq2, hq3⟩ := HQ2.out
          refine runs_val (v := .int .i64 mh) (w' := w) ?_ ⟨Below.refl _ _, rfl⟩
          go_simp
          exact IntWalk.i64_in _ (by have := HMH.out; omega)
        case r14_2o61 =>
          intro vs w hb hV
          rw [if_pos (by kernel_rfl)]
          generalize hρ : rho _ _ _ vs = ρ
          have d127 : (vs 57) = .int .i64 m := hV 57 (by kernel_rfl)
          have e127 : ρ (.tmp 127) = vs 57 := by rw [← hρ]; kernel_rfl
          rw [d127] at e127; clear d127
          have d130 : (vs 60) = .int .i64 mh := hV 60 (by kernel_rfl)
          have e130 : ρ (.tmp 130) = vs 60 := by rw [← hρ]; kernel_rfl
          rw [d130] at e130; clear d130
          clear hρ hV
          have hdd := HDD.out
          refine runs_val (v := .bool δ) (w' := w) ?_ ⟨Below.refl _ _, rfl⟩
          go_simp
        case r14_2o62 =>
          intro vs w hb hV
          rw [if_pos (by kernel_rfl)]
          generalize hρ : rho _ _ _ vs = ρ
          have d125 : (vs 55) = .bool δ := hV 55 (by kernel_rfl)
          have e125 : ρ (.tmp 125) = vs 55 := by rw [← hρ]; kernel_rfl
          rw [d125] at e125; clear d125
          have d131 : (vs 61) = .bool δ := hV 61 (by kernel_rfl)
          have e131 : ρ (.tmp 131) = vs 61 := by rw [← hρ]; kernel_rfl
          rw [d131] at e131; clear d131
          clear hρ hV
          refine runs_val (v := .bool true) (w' := w) ?_ ⟨Below.refl _ _, rfl⟩
          go_simp <;> (first | exact IntWalk.u64_in _ (by omega) | exact IntWalk.u32_in _ (by omega) | exact IntWalk.u16_in _ (by omega) | exact IntWalk.u8_in _ (by omega) | exact IntWalk.i64_in _ (by omega) | skip)
        case r14_2o63 =>
          intro vs w hb hV
          rw [if_pos (by kernel_rfl)]
          generalize hρ : rho _ _ _ vs = ρ
          have d121 : (vs 51) = .bool true := hV 51 (by kernel_rfl)
          have e121 : ρ (.tmp 121) = vs 51 := by rw [← hρ]; kernel_rfl
          rw [d121] at e121; clear d121
          have d132 : (vs 62) = .bool true := hV 62 (by kernel_rfl)
          have e132 : ρ (.tmp 132) = vs 62 := by rw [← hρ]; kernel_rfl
          rw [d132] at e132; clear d132
          have econ : ∀ v : Value, ρ (.const v) = v := fun v => by rw [← hρ]; rfl
          clear hρ hV
          refine runs_val (v := .bool true) (w' := w) ?_ ⟨Below.refl _ _, rfl⟩
          go_simp <;> (first | exact IntWalk.u64_in _ (by omega) | exact IntWalk.u32_in _ (by omega) | exact IntWalk.u16_in _ (by omega) | exact IntWalk.u8_in _ (by omega) | exact IntWalk.i64_in _ (by omega) | skip)
        case r14_2o64 =>
          intro vs w hb hV
          rw [if_pos (by kernel_rfl)]
          generalize hρ : rho _ _ _ vs = ρ
          have d133 : (vs 63) = .bool true := hV 63 (by kernel_rfl)
          have e133 : ρ (.tmp 133) = vs 63 := by rw [← hρ]; kernel_rfl
          clear hρ hV
          refine runs_val (v := vs 63) (w' := w) ?_ ⟨Below.refl _ _, d133⟩
          go_simp
        case r14_2o65 =>
          intro vs w hb hV
          rw [if_pos (by kernel_rfl)]
          generalize hρ : rho _ _ _ vs = ρ
          have e11 : ρ (.tmp 11) = .pointer (some ⟨ga, 0, none⟩) := by rw [← hρ]; kernel_rfl
          clear hρ hV
          exact runs_load 30 (.tmp 11) rfl ga e11 30 (boardC f m) (0, 0) _ (((hb.block ga (blk_lt (HP10.out.get (i := 2) rfl))).trans (HP10.out.get (i := 2) rfl))) Try.underlying30 rfl (HI _ _).out ⟨Below.refl _ _, rfl⟩
        case r14_2o66 =>
          intro vs w hb hV
          rw [if_pos (by kernel_rfl)]
          generalize hρ : rho _ _ _ vs = ρ
          have d135 : (vs 65) = .agg (boardC f m) := hV 65 (by kernel_rfl)
          have e135 : ρ (.tmp 135) = vs 65 := by rw [← hρ]; kernel_rfl
          rw [d135] at e135; clear d135
          have ef28 : ρ (.func 28) = .func (.func 28) #[] #[] := by rw [← hρ]; rfl
          clear hρ hV
          refine runs_call (f := 28) (args := #[.agg (boardC f m)]) (w' := w) ?_ ?_
          · go_simp
          · refine (KLA.out _).mono ?_
            rintro e w5 ⟨rfl, hb5⟩
            exact ⟨_, rfl, hb5, rfl⟩
        case r14_2o67 =>
          intro vs w hb hV
          rw [if_pos (by kernel_rfl)]
          generalize hρ : rho _ _ _ vs = ρ
          have e13 : ρ (.tmp 13) = .pointer (some ⟨gb, 0, none⟩) := by rw [← hρ]; kernel_rfl
          clear hρ hV
          exact runs_load 30 (.tmp 13) rfl gb e13 30 (boardC h m) (0, 0) _ (((hb.block gb (blk_lt (HP10.out.get (i := 1) rfl))).trans (HP10.out.get (i := 1) rfl))) Try.underlying30 rfl (HI _ _).out ⟨Below.refl _ _, rfl⟩
        case r14_2o68 =>
          intro vs w hb hV
          rw [if_pos (by kernel_rfl)]
          generalize hρ : rho _ _ _ vs = ρ
          have e3 : ρ (.tmp 3) = .int .i64 p := by rw [← hρ]; kernel_rfl
          clear hρ hV
          refine runs_val (v := .int .i64 p) (w' := w) ?_ ⟨Below.refl _ _, rfl⟩
          go_simp <;> (first | exact IntWalk.u64_in _ (by omega) | exact IntWalk.u32_in _ (by omega) | exact IntWalk.u16_in _ (by omega) | exact IntWalk.u8_in _ (by omega) | exact IntWalk.i64_in _ (by omega) | skip)
        case r14_2o69 =>
          intro vs w hb hV
          rw [if_pos (by kernel_rfl)]
          generalize hρ : rho _ _ _ vs = ρ
          have d137 : (vs 67) = .agg (boardC h m) := hV 67 (by kernel_rfl)
          have e137 : ρ (.tmp 137) = vs 67 := by rw [← hρ]; kernel_rfl
          rw [d137] at e137; clear d137
          have d138 : (vs 68) = .int .i64 p := hV 68 (by kernel_rfl)
          have e138 : ρ (.tmp 138) = vs 68 := by rw [← hρ]; kernel_rfl
          rw [d138] at e138; clear d138
          have ef26 : ρ (.func 26) = .func (.func 26) #[] #[] := by rw [← hρ]; rfl
          clear hρ hV
          refine runs_call (f := 26) (args := #[.agg (boardC h m), .int .i64 p]) (w' := w) ?_ ?_
          · go_simp
          · refine (view_any h m p _ H48.out).mono ?_
            rintro e w5 ⟨rfl, hb5⟩
            exact ⟨_, rfl, hb5, rfl⟩
        case r14_2o70 =>
          intro vs w hb hV
          rw [if_pos (by kernel_rfl)]
          generalize hρ : rho _ _ _ vs = ρ
          have d139 : (vs 69) = .agg (boardC (viewF h m p) m) := hV 69 (by kernel_rfl)
          have e139 : ρ (.tmp 139) = vs 69 := by rw [← hρ]; kernel_rfl
          rw [d139] at e139; clear d139
          have ef28 : ρ (.func 28) = .func (.func 28) #[] #[] := by rw [← hρ]; rfl
          clear hρ hV
          refine runs_call (f := 28) (args := #[.agg (boardC (viewF h m p) m)]) (w' := w) ?_ ?_
          · go_simp
          · refine (KLB.out _).mono ?_
            rintro e w5 ⟨rfl, hb5⟩
            exact ⟨_, rfl, hb5, rfl⟩
        case r14_2o71 =>
          intro vs w hb hV
          rw [if_pos (by kernel_rfl)]
          generalize hρ : rho _ _ _ vs = ρ
          have d136 : (vs 66) = .int .u32 lA := hV 66 (by kernel_rfl)
          have e136 : ρ (.tmp 136) = vs 66 := by rw [← hρ]; kernel_rfl
          rw [d136] at e136; clear d136
          have d140 : (vs 70) = .int .u32 lA := hV 70 (by kernel_rfl)
          have e140 : ρ (.tmp 140) = vs 70 := by rw [← hρ]; kernel_rfl
          rw [d140] at e140; clear d140
          clear hρ hV
          refine runs_val (v := .bool true) (w' := w) ?_ ⟨Below.refl _ _, rfl⟩
          go_simp <;> (first | exact IntWalk.u64_in _ (by omega) | exact IntWalk.u32_in _ (by omega) | exact IntWalk.u16_in _ (by omega) | exact IntWalk.u8_in _ (by omega) | exact IntWalk.i64_in _ (by omega) | skip)
        case r14_2o72 =>
          intro vs w hb hV
          rw [if_pos (by kernel_rfl)]
          generalize hρ : rho _ _ _ vs = ρ
          have d134 : (vs 64) = .bool true := hV 64 (by kernel_rfl)
          have e134 : ρ (.tmp 134) = vs 64 := by rw [← hρ]; kernel_rfl
          rw [d134] at e134; clear d134
          have d141 : (vs 71) = .bool true := hV 71 (by kernel_rfl)
          have e141 : ρ (.tmp 141) = vs 71 := by rw [← hρ]; kernel_rfl
          rw [d141] at e141; clear d141
          have econ : ∀ v : Value, ρ (.const v) = v := fun v => by rw [← hρ]; rfl
          clear hρ hV
          refine runs_val (v := .bool true) (w' := w) ?_ ⟨Below.refl _ _, rfl⟩
          go_simp <;> (first | exact IntWalk.u64_in _ (by omega) | exact IntWalk.u32_in _ (by omega) | exact IntWalk.u16_in _ (by omega) | exact IntWalk.u8_in _ (by omega) | exact IntWalk.i64_in _ (by omega) | skip)
        case r14_2o73 =>
          intro vs w hb hV
          rw [if_pos (by kernel_rfl)]
          generalize hρ : rho _ _ _ vs = ρ
          have d142 : (vs 72) = .bool true := hV 72 (by kernel_rfl)
          have e142 : ρ (.tmp 142) = vs 72 := by rw [← hρ]; kernel_rfl
          clear hρ hV
          refine runs_val (v := vs 72) (w' := w) ?_ ⟨Below.refl _ _, d142⟩
          go_simp
        case r14_2e =>
          intro vs w11 hb11 hV
          have d70 : (vs 0) = .agg (boardC f m) := hV 0 (Nat.le_of_ble_eq_true rfl)
          have d71 : (vs 1) = .agg (boardC h m) := hV 1 (Nat.le_of_ble_eq_true rfl)
          have d72 : (vs 2) = .int .i64 o := hV 2 (Nat.le_of_ble_eq_true rfl)
          have d73 : (vs 3) = .bool true := hV 3 (Nat.le_of_ble_eq_true rfl)
          have d74 : (vs 4) = .bool true := hV 4 (Nat.le_of_ble_eq_true rfl)
          have d75 : (vs 5) = .agg (boardC f m) := hV 5 (Nat.le_of_ble_eq_true rfl)
          have d76 : (vs 6) = .agg (boardC h m) := hV 6 (Nat.le_of_ble_eq_true rfl)
          have d77 : (vs 7) = .int .i64 p := hV 7 (Nat.le_of_ble_eq_true rfl)
          have d78 : (vs 8) = .bool β := hV 8 (Nat.le_of_ble_eq_true rfl)
          have d79 : (vs 9) = .slice Q m d := hV 9 (Nat.le_of_ble_eq_true rfl)
          have d80 : (fun (w : World) (v : Value) => ∃ A c, v = .slice A m c ∧ m ≤ c ∧ k52.C w A m (M.map toR)) w11 (vs 10) := hV 10 (Nat.le_of_ble_eq_true rfl)
          have d81 : (vs 11) = .int .i64 p := hV 11 (Nat.le_of_ble_eq_true rfl)
          have d82 : (fun (w : World) (v : Value) => ∃ A c, v = .slice A m c ∧ m ≤ c ∧ k52.C w A m ((M.map toR).map (viewR p))) w11 (vs 12) := hV 12 (Nat.le_of_ble_eq_true rfl)
          have d83 : (vs 13) = .slice (some ⟨g, 0, none⟩) m dm := hV 13 (Nat.le_of_ble_eq_true rfl)
          have d84 : (fun (w : World) (v : Value) => ∃ A c, v = .slice A m c ∧ m ≤ c ∧ k52.C w A m ((listF h m).map toR)) w11 (vs 14) := hV 14 (Nat.le_of_ble_eq_true rfl)
          have d85 : (vs 15) = .int .i64 p := hV 15 (Nat.le_of_ble_eq_true rfl)
          have d86 : (fun (w : World) (v : Value) => ∃ A c, v = .slice A m c ∧ m ≤ c ∧ k52.C w A m (((listF h m).map toR).map (viewR p))) w11 (vs 16) := hV 16 (Nat.le_of_ble_eq_true rfl)
          have d87 : (vs 17) = .bool β := hV 17 (Nat.le_of_ble_eq_true rfl)
          have d88 : (vs 18) = .bool true := hV 18 (Nat.le_of_ble_eq_true rfl)
          have d89 : (vs 19) = .bool true := hV 19 (Nat.le_of_ble_eq_true rfl)
          have d90 : (vs 20) = .bool true := hV 20 (Nat.le_of_ble_eq_true rfl)
          have d91 : (vs 21) = .agg (boardC f m) := hV 21 (Nat.le_of_ble_eq_true rfl)
          have d92 : (vs 22) = .int .i64 o := hV 22 (Nat.le_of_ble_eq_true rfl)
          have d93 : (vs 23) = .agg (boardC (viewF f m o) m) := hV 23 (Nat.le_of_ble_eq_true rfl)
          have d94 : (vs 24) = .int .i64 o := hV 24 (Nat.le_of_ble_eq_true rfl)
          have d95 : (vs 25) = .agg (boardC (viewF (viewF f m o) m o) m) := hV 25 (Nat.le_of_ble_eq_true rfl)
          have d96 : (vs 26) = .agg (boardC f m) := hV 26 (Nat.le_of_ble_eq_true rfl)
          have d97 : (vs 27) = .int .i64 o := hV 27 (Nat.le_of_ble_eq_true rfl)
          have d98 : (vs 28) = .agg (boardC (viewF f m o) m) := hV 28 (Nat.le_of_ble_eq_true rfl)
          have d99 : (vs 29) = .bool true := hV 29 (Nat.le_of_ble_eq_true rfl)
          have d100 : (vs 30) = .bool true := hV 30 (Nat.le_of_ble_eq_true rfl)
          have d101 : (vs 31) = .bool true := hV 31 (Nat.le_of_ble_eq_true rfl)
          have d102 : (vs 32) = .agg (boardC f m) := hV 32 (Nat.le_of_ble_eq_true rfl)
          have d103 : (vs 33) = .int .i64 o := hV 33 (Nat.le_of_ble_eq_true rfl)
          have d104 : (vs 34) = .agg (boardC (viewF f m o) m) := hV 34 (Nat.le_of_ble_eq_true rfl)
          have d105 : (vs 35) = .agg (boardC h m) := hV 35 (Nat.le_of_ble_eq_true rfl)
          have d106 : (vs 36) = .int .i64 o := hV 36 (Nat.le_of_ble_eq_true rfl)
          have d107 : (vs 37) = .agg (boardC (viewF h m o) m) := hV 37 (Nat.le_of_ble_eq_true rfl)
          have d108 : (vs 38) = .bool true := hV 38 (Nat.le_of_ble_eq_true rfl)
          have d109 : (vs 39) = .bool true := hV 39 (Nat.le_of_ble_eq_true rfl)
          have d110 : (vs 40) = .bool true := hV 40 (Nat.le_of_ble_eq_true rfl)
          have d111 : (vs 41) = .agg (boardC f m) := hV 41 (Nat.le_of_ble_eq_true rfl)
          have d112 : (vs 42) = .int .i64 o := hV 42 (Nat.le_of_ble_eq_true rfl)
          have d113 : (vs 43) = .agg (boardC (viewF f m o) m) := hV 43 (Nat.le_of_ble_eq_true rfl)
          have d114 : (vs 44) = .int .u32 hA := hV 44 (Nat.le_of_ble_eq_true rfl)
          have d115 : (vs 45) = .agg (boardC h m) := hV 45 (Nat.le_of_ble_eq_true rfl)
          have d116 : (vs 46) = .int .i64 o := hV 46 (Nat.le_of_ble_eq_true rfl)
          have d117 : (vs 47) = .agg (boardC (viewF h m o) m) := hV 47 (Nat.le_of_ble_eq_true rfl)
          have d118 : (vs 48) = .int .u32 hA := hV 48 (Nat.le_of_ble_eq_true rfl)
          have d119 : (vs 49) = .bool true := hV 49 (Nat.le_of_ble_eq_true rfl)
          have d120 : (vs 50) = .bool true := hV 50 (Nat.le_of_ble_eq_true rfl)
          have d121 : (vs 51) = .bool true := hV 51 (Nat.le_of_ble_eq_true rfl)
          have d122 : (vs 52) = .agg (boardC f m) := hV 52 (Nat.le_of_ble_eq_true rfl)
          have d123 : (vs 53) = .agg (boardC fc mh) := hV 53 (Nat.le_of_ble_eq_true rfl)
          have d124 : (vs 54) = .int .i64 o := hV 54 (Nat.le_of_ble_eq_true rfl)
          have d125 : (vs 55) = .bool δ := hV 55 (Nat.le_of_ble_eq_true rfl)
          have d126 : (vs 56) = .slice Q m d := hV 56 (Nat.le_of_ble_eq_true rfl)
          have d127 : (vs 57) = .int .i64 m := hV 57 (Nat.le_of_ble_eq_true rfl)
          have d128 : (vs 58) = .slice Q m d := hV 58 (Nat.le_of_ble_eq_true rfl)
          have d129 : (vs 59) = .int .i64 m := hV 59 (Nat.le_of_ble_eq_true rfl)
          have d130 : (vs 60) = .int .i64 mh := hV 60 (Nat.le_of_ble_eq_true rfl)
          have d131 : (vs 61) = .bool δ := hV 61 (Nat.le_of_ble_eq_true rfl)
          have d132 : (vs 62) = .bool true := hV 62 (Nat.le_of_ble_eq_true rfl)
          have d133 : (vs 63) = .bool true := hV 63 (Nat.le_of_ble_eq_true rfl)
          have d134 : (vs 64) = .bool true := hV 64 (Nat.le_of_ble_eq_true rfl)
          have d135 : (vs 65) = .agg (boardC f m) := hV 65 (Nat.le_of_ble_eq_true rfl)
          have d136 : (vs 66) = .int .u32 lA := hV 66 (Nat.le_of_ble_eq_true rfl)
          have d137 : (vs 67) = .agg (boardC h m) := hV 67 (Nat.le_of_ble_eq_true rfl)
          have d138 : (vs 68) = .int .i64 p := hV 68 (Nat.le_of_ble_eq_true rfl)
          have d139 : (vs 69) = .agg (boardC (viewF h m p) m) := hV 69 (Nat.le_of_ble_eq_true rfl)
          have d140 : (vs 70) = .int .u32 lA := hV 70 (Nat.le_of_ble_eq_true rfl)
          have d141 : (vs 71) = .bool true := hV 71 (Nat.le_of_ble_eq_true rfl)
          have d142 : (vs 72) = .bool true := hV 72 (Nat.le_of_ble_eq_true rfl)
          have d8 : (vs 73) = .bool true := hV 73 (Nat.le_of_ble_eq_true rfl)
          clear hV
          simp only [putAll]
          rw [d70, d71, d72, d73, d74, d75, d76, d77, d78, d79, d81, d83, d85, d87, d88, d89, d90, d91, d92, d93, d94, d95, d96, d97, d98, d99, d100, d101, d102, d103, d104, d105, d106, d107, d108, d109, d110, d111, d112, d113, d114, d115, d116, d117, d118, d119, d120, d121, d122, d123, d124, d125, d126, d127, d128, d129, d130, d131, d132, d133, d134, d135, d136, d137, d138, d139, d140, d141, d142, d8]
          clear d70 d71 d72 d73 d74 d75 d76 d77 d78 d79 d81 d83 d85 d87 d88 d89 d90 d91 d92 d93 d94 d95 d96 d97 d98 d99 d100 d101 d102 d103 d104 d105 d106 d107 d108 d109 d110 d111 d112 d113 d114 d115 d116 d117 d118 d119 d120 d121 d122 d123 d124 d125 d126 d127 d128 d129 d130 d131 d132 d133 d134 d135 d136 d137 d138 d139 d140 d141 d142 d8
          generalize vs 10 = v80 at *
          generalize vs 12 = v82 at *
          generalize vs 14 = v84 at *
          generalize vs 16 = v86 at *
          clear vs
          simp only [Act.put, List.setIfInBounds_toArray, List.set_cons_zero, List.set_cons_succ]
          clear d80 d82 d84 d86
          have HP11 := Aside0.mk (HP10.out.call hb11)
          clear hb11
          go_wp2_with fail
          go_ret
          exact ⟨rfl, HP11.out.bel⟩
end Go.Proofs.Ytkjjmmgngdpppaa
