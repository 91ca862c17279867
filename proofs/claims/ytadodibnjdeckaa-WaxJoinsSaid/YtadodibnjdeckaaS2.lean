/- WaxJoins, walked. -/
import Derived.Test.YtadodibnjdeckaaSi
import Derived.Test.YtadodibnjdeckaaWk
import Derived.Test.YtadodibnjdeckaaO
namespace Go.Proofs.Ytadodibnjdeckaa
open Go.RowKit Go.Proofs.YtadodibnjdeckaaW.PrintWords Go.Proofs.YtadodibnjdeckaaW.PrintLast Go.Proofs.YtadodibnjdeckaaW.PrintMore
set_option linter.unusedVariables false
set_option linter.unusedSimpArgs false

theorem flatten_le (m : Nat) : ∀ (l : List (List Int)), (∀ p ∈ l, p.length ≤ m) → l.flatten.length ≤ l.length * m
  | [], _ => by simp
  | p :: l, h => by
    have h1 := flatten_le m l (fun q hq => h q (List.mem_cons_of_mem _ hq))
    have h2 := h p List.mem_cons_self
    rw [List.flatten_cons, List.length_append, List.length_cons, Nat.succ_mul]
    omega
theorem info_row : (Try.prog.info? 22).map (fun i => (i.zero, i.size, i.bytes)) = some (some (.slice none 0 0), 1, 24) := by kernel_rfl
set_option maxRecDepth 100000 in
set_option maxHeartbeats 4000000 in
theorem waxJoins_walk (A : Option Addr) (n c : Nat) (l : List (List Int)) (at_ turn : Int) (w : World) (hr : (Kd.slice 5 (Kd.int .u8)).C w A n l) (hc : n ≤ c) (hb : ∀ p ∈ l, Bytes p) (hat : 0 ≤ at_ ∧ at_ < 65536) (hturn : 0 ≤ turn ∧ turn < 256) :
    Calls Try.prog 4 #[.slice A n c, .int .u16 at_, .int .u8 turn] w fun e w' => e = .returned (.bool true) ∧ Below w.heap.size w w' := by
  obtain rfl := hr.1
  have hm := hr.2.1
  have HR := Aside0.mk hr
  have HBY := Aside0.mk hb
  clear hr hb
  go_enter Try.func4, Try.ntmps4
  go_wp2_with fail
  refine (awake_any _).mono ?_
  rintro e w1 ⟨rfl, hb1⟩
  have HB1 := Aside0.mk hb1
  clear hb1
  go_wp2_with fail
  go_loopw [7, 17] (fun v7 v17 wr => ∃ (k : Nat), k ≤ l.length ∧ v17 = .int .i64 k ∧ Aside0 ((Kd.slice 5 (Kd.int .u8)).R 22 wr w.heap.size (fun _ => True) v7 (((l.take 6).take k).map (List.take 60)) ∧ Below w.heap.size w wr)) (fun _ v17 _ => l.length - (intOf v17).toNat)
  case atStart => exact ⟨0, by omega, rfl, ⟨Kd.R_nil _ _ _ _ _, HB1.out⟩⟩
  case round =>
    obtain ⟨k, hk, rfl, HS⟩ := hrel
    by_cases hlt : k < l.length
    · obtain ⟨ad, A0, c0, rfl, hcell, hl0, hC⟩ := row_at HR.out k hlt
      have HC0 := Aside0.mk (Kd.C_below hC HS.out.2)
      replace hcell := pw_cell_below HS.out.2 hcell
      clear hC
      by_cases h6 : k < 6
      · have HE : Hid (((l.take 6).take (k + 1)).map (List.take 60) = ((l.take 6).take k).map (List.take 60) ++ [l[k].take 60]) := by
          show _ = _
          have : k < (l.take 6).length := by rw [List.length_take]; omega
          rw [take_snoc this, List.map_append, List.getElem_take]; rfl
        have HLX : Aside0 (((((l.take 6).take k).map (List.take 60)).length + 1) * 24 ≤ 140737488355328) := ⟨by rw [List.length_map, List.length_take, List.length_take]; omega⟩
        generalize ((l.take 6).take k).map (List.take 60) = own at *
        generalize l[k] = p at *
        go_wp2_with fail
        refine (cut_any _ _ _ p 60 _ HC0.out hl0 (by omega)).mono ?_
        rintro e w2 ⟨v2, rfl, ho2, hb2⟩
        simp only [show (60 : Int).toNat = 60 from rfl] at ho2
        generalize p.take 60 = q at *
        obtain ⟨Q, d, rfl⟩ := Kd.R_slice ho2
        have hB2 := below_step HS.out.2 hb2
        have hO2 := Kd.R_below HS.out.1 hb2
        have hI2 := Kd.R_apartR (Kd.R_lower ho2 HS.out.2.size) hO2 (by intro q hq; simp [Kd.int, Kd.scalar] at hq; omega)
        have HB2 := Aside0.mk hB2
        have HO2 := Aside0.mk hO2
        have HI2 := Aside0.mk hI2
        clear ho2 hb2 hB2 hO2 hI2 HS
        go_wp2_with (first | (at_builtin; refine Kd.R_append (Kd.slice 5 (Kd.int .u8)) (w0 := w) w.heap.size rfl (.tmp 24) (.tmp 27) 34 22 (.slice none 0 0) 24 rfl Try.underlying34 info_row rfl (by decide) (by decide) u7 own q [.slice Q q.length d] (fun _ => True) (fun k => True ∧ some k ≠ Value.ownBlock u7) rfl rfl ?aP (fun k hk => ⟨trivial, hk.2⟩) (fun _ _ => trivial) ?aO ?aB ?aS ?aL ?_; (case aP => exact Kd.M_row HI2.out); (case aO => exact HO2.out); (case aB => exact HB2.out); (case aS => exact HB2.out.size); (case aL => exact HLX.out); intro v3 w3 ho3 hb3 _ _))
        have HS3 := Aside0.mk (And.intro ho3 hb3)
        clear ho3 hb3
        go_wp2
        go_roundw
        case rel => exact ⟨k + 1, by omega, by go_num, ⟨by rw [HE.out]; exact HS3.out.1, HS3.out.2⟩⟩
        case measure => simp [intOf]; omega
      · have HE : Hid (((l.take 6).take (k + 1)).map (List.take 60) = ((l.take 6).take k).map (List.take 60)) := by
          show _ = _
          rw [takes (by rw [List.length_take]; omega : min (k + 1) (l.take 6).length = min k (l.take 6).length)]
        generalize l[k] = p at *
        go_wp2_with fail
        go_roundw
        case rel => exact ⟨k + 1, by omega, by go_num, ⟨by rw [HE.out]; exact HS.out.1, HS.out.2⟩⟩
        case measure => simp [intOf]; omega
    · obtain rfl : k = l.length := by omega
      have hE0 : (l.take 6).take l.length = l.take 6 := List.take_of_length_le (by rw [List.length_take]; omega)
      rw [hE0] at HS
      have HX : Aside0 ((∀ p ∈ (l.take 6).map (List.take 60), Bytes p) ∧ ((l.take 6).map (List.take 60)).flatten.length ≤ 360) := by
        refine ⟨fun p hp => ?_, ?_⟩
        · obtain ⟨p', hp', rfl⟩ := List.mem_map.1 hp
          exact (HBY.out p' (List.mem_of_mem_take hp')).take 60
        · have h1 := flatten_le 60 ((l.take 6).map (List.take 60)) (fun p hp => by
            obtain ⟨p', _, rfl⟩ := List.mem_map.1 hp
            exact List.length_take_le _ _)
          rw [List.length_map, List.length_take] at h1
          omega
      generalize (l.take 6).map (List.take 60) = own at *
      obtain ⟨O, oc, rfl, hoc, hOC⟩ := Kd.R_reads HS.out.1
      have HB := Aside0.mk HS.out.2
      have HOC := Aside0.mk hOC
      clear HS hOC hE0
      go_wp2_with fail
      refine (join_any _ _ _ own _ HOC.out hoc (by have := HX.out.2; omega)).mono ?_
      rintro e w2 ⟨v2, rfl, ho2, hb2⟩
      have HB2 := Aside0.mk (below_step HB.out hb2)
      have HO2 := Aside0.mk (Kd.C_below HOC.out hb2)
      have HPB := Aside0.mk (Bytes.flatten HX.out.1)
      have HPL : Aside0 (own.flatten.length ≤ 360) := ⟨HX.out.2⟩
      have HP : Aside0 (own.flatten = own.flatten) := ⟨rfl⟩
      generalize hp : own.flatten = p at ho2 HPB HPL
      replace HP : Hid (own.flatten = p) := hp
      clear hp
      obtain ⟨Q, d, rfl, hd, hC2⟩ := Kd.R_reads ho2
      have HC2 := Aside0.mk hC2
      clear ho2 hC2 hb2 HB HOC
      go_wp2_with fail
      refine (make_any _).mono ?_
      rintro e w3 ⟨T, rfl, hT, hb3⟩
      have HT := Aside0.mk hT
      have HB3 := Aside0.mk (below_step HB2.out hb3)
      have HC3 := Aside0.mk (Kd.C_below HC2.out hb3)
      have HO3 := Aside0.mk (Kd.C_below HO2.out hb3)
      clear hT hb3 HB2 HC2 HO2
      have Hsz : Aside0 ((Try.prog.info? 28).map (·.size) = some T.size) := ⟨by rw [HT.out.size]; kernel_rfl⟩
      have hz := zero_table
      go_wp2_with (first | (refine wpList_store_row rfl 28 (.tmp 11) (.tmp 32) rfl w3.heap.size T rfl rfl 28 Z256 (heap_alloc_new _ _) Hsz.out (by rw [Z256_size, HT.out.size]) HT.out.one ?_))
      obtain ⟨V, hV⟩ : ∃ V, V = (w3.alloc (Obj.cells Z256 28)).setRow w3.heap.size T := ⟨_, rfl⟩
      rw [← hV]
      have hB4 : Below w3.heap.size w3 V := by rw [hV]; exact below_setRow (below_alloc (Below.refl _ _) _) (Nat.le_refl _) _
      have HBV := Aside0.mk (below_step HB3.out hB4)
      have HGV := Aside0.mk (show V.heap[w3.heap.size]? = some (.cells T 28 (0, 0)) from by rw [hV]; exact setRow_heap _ _ _ _ _ _ (heap_alloc_new _ _))
      have HCV := Aside0.mk (Kd.C_below HC3.out hB4)
      have HOV := Aside0.mk (Kd.C_below HO3.out hB4)
      clear hV HB3 HC3 HO3 hz hB4
      generalize w3.heap.size = g at *
      by_cases hpl : p.length = 0
      · have hp0 : ((p.length : Int) == 0) = true := by simp [hpl]
        go_frame
        refine region_grown (W := V)
          [fun (w : World) (v : Value) => v = .agg T,
   fun (w : World) (v : Value) => v = .slice O own.length oc,
   fun (w : World) (v : Value) => v = .int .u32 (sumN tab p : Nat),
   fun (w : World) (v : Value) => v = .agg T,
   fun (w : World) (v : Value) => v = .slice Q p.length d,
   fun (w : World) (v : Value) => ∃ A, v = .slice A 1 1 ∧ (Kd.slice 5 (Kd.int .u8)).C w A 1 [p],
   fun (w : World) (v : Value) => v = .int .u32 (sumN tab p : Nat),
   fun (w : World) (v : Value) => v = .bool false,
   fun (w : World) (v : Value) => v = .bool false,
   fun (w : World) (v : Value) => v = .slice Q p.length d,
   fun (w : World) (v : Value) => v = .int .i64 p.length,
   fun (w : World) (v : Value) => v = .bool true,
   fun (w : World) (v : Value) => v = .bool true]
          (fun j => if j = 8 then some false else none)
          [(0, some 33), (1, some 34), (2, some 35), (3, some 36), (4, some 37), (5, some 38), (6, some 39), (7, some 40), (8, some 41), (9, some 42), (10, some 43), (11, some 44), (12, some 45)]
          [8]
          (by kernel_rfl) (by kernel_rfl) (by kernel_rfl) (by kernel_rfl) ?r12_1g ?r12_1s ⟨?r12_1o0, ?r12_1o1, ?r12_1o2, ?r12_1o3, ?r12_1o4, ?r12_1o5, ?r12_1o6, ?r12_1o7, ?r12_1o8, ?r12_1o9, ?r12_1o10, ?r12_1o11, ?r12_1o12, trivial⟩ ?r12_1e
        case r12_1g =>
          intro j hj w v hv
          simp only [List.mem_cons, List.not_mem_nil, or_false] at hj
          rcases hj with rfl
          · have hv' : v = .bool false := hv; rw [hv']; rfl
        case r12_1s =>
          refine ⟨(fun w w' v hb h => h), (fun w w' v hb h => h), (fun w w' v hb h => h), (fun w w' v hb h => h), (fun w w' v hb h => h), (fun w w' v hb h => let ⟨A, h1, h2⟩ := h; ⟨A, h1, Kd.C_below h2 hb⟩), (fun w w' v hb h => h), (fun w w' v hb h => h), (fun w w' v hb h => h), (fun w w' v hb h => h), (fun w w' v hb h => h), (fun w w' v hb h => h), (fun w w' v hb h => h), trivial⟩
        case r12_1o0 =>
          intro vs w hb hV
          rw [if_pos (by kernel_rfl)]
          generalize hρ : rho _ _ _ vs = ρ
          have e11 : ρ (.tmp 11) = .pointer (some ⟨g, 0, none⟩) := by rw [← hρ]; kernel_rfl
          clear hρ hV
          exact runs_load 28 (.tmp 11) rfl g e11 28 T (0, 0) _ ((hb.block g (blk_lt HGV.out)).trans HGV.out) Try.underlying28 rfl Hsz.out ⟨Below.refl _ _, rfl⟩
        case r12_1o1 =>
          intro vs w hb hV
          rw [if_pos (by kernel_rfl)]
          generalize hρ : rho _ _ _ vs = ρ
          have e7 : ρ (.tmp 7) = .slice O own.length oc := by rw [← hρ]; kernel_rfl
          clear hρ hV
          refine runs_val (v := .slice O own.length oc) (w' := w) ?_ ⟨Below.refl _ _, rfl⟩
          go_simp
        case r12_1o2 =>
          intro vs w hb hV
          rw [if_pos (by kernel_rfl)]
          generalize hρ : rho _ _ _ vs = ρ
          have d33 : (vs 0) = .agg T := hV 0 (by kernel_rfl)
          have e33 : ρ (.tmp 33) = vs 0 := by rw [← hρ]; kernel_rfl
          rw [d33] at e33; clear d33
          have d34 : (vs 1) = .slice O own.length oc := hV 1 (by kernel_rfl)
          have e34 : ρ (.tmp 34) = vs 1 := by rw [← hρ]; kernel_rfl
          rw [d34] at e34; clear d34
          have ef13 : ρ (.func 13) = .func (.func 13) #[] #[] := by rw [← hρ]; rfl
          clear hρ hV
          refine runs_call (f := 13) (args := #[.agg T, .slice O own.length oc]) (w' := w) ?_ ?_
          · go_simp
          · refine (sum_any tab T _ _ _ own (sumN tab p) _ HT.out (Kd.C_below HOV.out hb) HX.out.1 (by rw [HP.out])).mono ?_
            rintro e w5 ⟨rfl, hb5⟩
            exact ⟨_, rfl, hb5, rfl⟩
        case r12_1o3 =>
          intro vs w hb hV
          rw [if_pos (by kernel_rfl)]
          generalize hρ : rho _ _ _ vs = ρ
          have e11 : ρ (.tmp 11) = .pointer (some ⟨g, 0, none⟩) := by rw [← hρ]; kernel_rfl
          clear hρ hV
          exact runs_load 28 (.tmp 11) rfl g e11 28 T (0, 0) _ ((hb.block g (blk_lt HGV.out)).trans HGV.out) Try.underlying28 rfl Hsz.out ⟨Below.refl _ _, rfl⟩
        case r12_1o4 =>
          intro vs w hb hV
          rw [if_pos (by kernel_rfl)]
          generalize hρ : rho _ _ _ vs = ρ
          have e10 : ρ (.tmp 10) = .slice Q p.length d := by rw [← hρ]; kernel_rfl
          clear hρ hV
          refine runs_val (v := .slice Q p.length d) (w' := w) ?_ ⟨Below.refl _ _, rfl⟩
          go_simp
        case r12_1o5 =>
          intro vs w hb hV
          rw [if_pos (by kernel_rfl)]
          generalize hρ : rho _ _ _ vs = ρ
          have d37 : (vs 4) = .slice Q p.length d := hV 4 (by kernel_rfl)
          have e37 : ρ (.tmp 37) = vs 4 := by rw [← hρ]; kernel_rfl
          rw [d37] at e37; clear d37
          clear hρ hV
          refine runs_val (v := .slice (some ⟨w.heap.size, 0, none⟩) 1 1) (w' := w.alloc (.cells #[.slice Q p.length d] 22)) ?_ ⟨below_alloc (Below.refl _ _) _, _, rfl, C_one_row rfl (Kd.C_below HCV.out hb) hd⟩
          go_simp
        case r12_1o6 =>
          intro vs w hb hV
          rw [if_pos (by kernel_rfl)]
          generalize hρ : rho _ _ _ vs = ρ
          have d36 : (vs 3) = .agg T := hV 3 (by kernel_rfl)
          have e36 : ρ (.tmp 36) = vs 3 := by rw [← hρ]; kernel_rfl
          rw [d36] at e36; clear d36
          have d38 : (fun (w : World) (v : Value) => ∃ A, v = .slice A 1 1 ∧ (Kd.slice 5 (Kd.int .u8)).C w A 1 [p]) w (vs 5) := hV 5 (by kernel_rfl)
          have e38 : ρ (.tmp 38) = vs 5 := by rw [← hρ]; kernel_rfl
          obtain ⟨A1, h1, hC1⟩ := d38
          have ef13 : ρ (.func 13) = .func (.func 13) #[] #[] := by rw [← hρ]; rfl
          clear hρ hV
          rw [h1] at e38
          refine runs_call (f := 13) (args := #[.agg T, .slice A1 1 1]) (w' := w) ?_ ?_
          · go_simp
          · refine (sum_any tab T _ _ _ [p] (sumN tab p) _ HT.out hC1 (fun x hx => by rw [List.mem_singleton.1 hx]; exact HPB.out) (by simp)).mono ?_
            rintro e w5 ⟨rfl, hb5⟩
            exact ⟨_, rfl, hb5, rfl⟩
        case r12_1o7 =>
          intro vs w hb hV
          rw [if_pos (by kernel_rfl)]
          generalize hρ : rho _ _ _ vs = ρ
          have d35 : (vs 2) = .int .u32 (sumN tab p : Nat) := hV 2 (by kernel_rfl)
          have e35 : ρ (.tmp 35) = vs 2 := by rw [← hρ]; kernel_rfl
          rw [d35] at e35; clear d35
          have d39 : (vs 6) = .int .u32 (sumN tab p : Nat) := hV 6 (by kernel_rfl)
          have e39 : ρ (.tmp 39) = vs 6 := by rw [← hρ]; kernel_rfl
          rw [d39] at e39; clear d39
          clear hρ hV
          refine runs_val (v := .bool false) (w' := w) ?_ ⟨Below.refl _ _, rfl⟩
          go_simp
        case r12_1o8 =>
          intro vs w hb hV
          rw [if_pos (by kernel_rfl)]
          generalize hρ : rho _ _ _ vs = ρ
          have d40 : (vs 7) = .bool false := hV 7 (by kernel_rfl)
          have e40 : ρ (.tmp 40) = vs 7 := by rw [← hρ]; kernel_rfl
          clear hρ hV
          refine runs_val (v := vs 7) (w' := w) ?_ ⟨Below.refl _ _, d40⟩
          go_simp
        case r12_1o9 =>
          intro vs w hb hV
          rw [if_pos (by kernel_rfl)]
          generalize hρ : rho _ _ _ vs = ρ
          have e10 : ρ (.tmp 10) = .slice Q p.length d := by rw [← hρ]; kernel_rfl
          clear hρ hV
          refine runs_val (v := .slice Q p.length d) (w' := w) ?_ ⟨Below.refl _ _, rfl⟩
          go_simp
        case r12_1o10 =>
          intro vs w hb hV
          rw [if_pos (by kernel_rfl)]
          generalize hρ : rho _ _ _ vs = ρ
          have d42 : (vs 9) = .slice Q p.length d := hV 9 (by kernel_rfl)
          have e42 : ρ (.tmp 42) = vs 9 := by rw [← hρ]; kernel_rfl
          rw [d42] at e42; clear d42
          clear hρ hV
          refine runs_val (v := .int .i64 p.length) (w' := w) ?_ ⟨Below.refl _ _, rfl⟩
          go_simp
        case r12_1o11 =>
          intro vs w hb hV
          rw [if_pos (by kernel_rfl)]
          generalize hρ : rho _ _ _ vs = ρ
          have d43 : (vs 10) = .int .i64 p.length := hV 10 (by kernel_rfl)
          have e43 : ρ (.tmp 43) = vs 10 := by rw [← hρ]; kernel_rfl
          rw [d43] at e43; clear d43
          have econ : ∀ v : Value, ρ (.const v) = v := fun v => by rw [← hρ]; rfl
          clear hρ hV
          refine runs_val (v := .bool true) (w' := w) ?_ ⟨Below.refl _ _, rfl⟩
          go_simp
        case r12_1o12 =>
          intro vs w hb hV
          rw [if_pos (by kernel_rfl)]
          generalize hρ : rho _ _ _ vs = ρ
          have d41 : (vs 8) = .bool false := hV 8 (by kernel_rfl)
          have e41 : ρ (.tmp 41) = vs 8 := by rw [← hρ]; kernel_rfl
          rw [d41] at e41; clear d41
          have d44 : (vs 11) = .bool true := hV 11 (by kernel_rfl)
          have e44 : ρ (.tmp 44) = vs 11 := by rw [← hρ]; kernel_rfl
          rw [d44] at e44; clear d44
          have econ : ∀ v : Value, ρ (.const v) = v := fun v => by rw [← hρ]; rfl
          clear hρ hV
          refine runs_val (v := .bool true) (w' := w) ?_ ⟨Below.refl _ _, rfl⟩
          go_simp
        case r12_1e =>
          intro vs V2 hb2 hV
          have d33 : (vs 0) = .agg T := hV 0 (Nat.le_of_ble_eq_true rfl)
          have d34 : (vs 1) = .slice O own.length oc := hV 1 (Nat.le_of_ble_eq_true rfl)
          have d35 : (vs 2) = .int .u32 (sumN tab p : Nat) := hV 2 (Nat.le_of_ble_eq_true rfl)
          have d36 : (vs 3) = .agg T := hV 3 (Nat.le_of_ble_eq_true rfl)
          have d37 : (vs 4) = .slice Q p.length d := hV 4 (Nat.le_of_ble_eq_true rfl)
          have d38 : (fun (w : World) (v : Value) => ∃ A, v = .slice A 1 1 ∧ (Kd.slice 5 (Kd.int .u8)).C w A 1 [p]) V2 (vs 5) := hV 5 (Nat.le_of_ble_eq_true rfl)
          have d39 : (vs 6) = .int .u32 (sumN tab p : Nat) := hV 6 (Nat.le_of_ble_eq_true rfl)
          have d40 : (vs 7) = .bool false := hV 7 (Nat.le_of_ble_eq_true rfl)
          have d41 : (vs 8) = .bool false := hV 8 (Nat.le_of_ble_eq_true rfl)
          have d42 : (vs 9) = .slice Q p.length d := hV 9 (Nat.le_of_ble_eq_true rfl)
          have d43 : (vs 10) = .int .i64 p.length := hV 10 (Nat.le_of_ble_eq_true rfl)
          have d44 : (vs 11) = .bool true := hV 11 (Nat.le_of_ble_eq_true rfl)
          have d45 : (vs 12) = .bool true := hV 12 (Nat.le_of_ble_eq_true rfl)
          clear hV
          simp only [putAll]
          rw [d33, d34, d35, d36, d37, d39, d40, d41, d42, d43, d44, d45]
          clear d33 d34 d35 d36 d37 d39 d40 d41 d42 d43 d44 d45
          generalize vs 5 = v38 at *
          clear vs
          simp only [Act.put, List.setIfInBounds_toArray, List.set_cons_zero, List.set_cons_succ]
          have HB2 := Aside0.mk (below_step HBV.out hb2)
          have HG2 := Aside0.mk ((hb2.block g (blk_lt HGV.out)).trans HGV.out)
          have HC2 := Aside0.mk (Kd.C_below HCV.out hb2)
          have HO2 := Aside0.mk (Kd.C_below HOV.out hb2)
          clear hb2 HBV HGV HCV HOV d38
          go_wp2
          refine region_grown (W := V2)
            [fun (w : World) (v : Value) => v = .agg T,
   fun (w : World) (v : Value) => v = .slice O own.length oc,
   fun (w : World) (v : Value) => v = .int .u32 (sumN tab p : Nat),
   fun (w : World) (v : Value) => v = .agg T,
   fun (w : World) (v : Value) => v = .slice Q p.length d,
   fun (w : World) (v : Value) => ∃ A, v = .slice A 1 1 ∧ (Kd.slice 5 (Kd.int .u8)).C w A 1 [p],
   fun (w : World) (v : Value) => v = .int .u32 (sumN tab p : Nat),
   fun (w : World) (v : Value) => v = .bool true,
   fun (w : World) (v : Value) => v = .bool true]
            (fun j =>  none)
            [(0, some 46), (1, some 47), (2, some 48), (3, some 49), (4, some 50), (5, some 51), (6, some 52), (7, some 53), (8, some 6)]
            []
            (by kernel_rfl) (by kernel_rfl) (by kernel_rfl) (by kernel_rfl) ?r13_2g ?r13_2s ⟨?r13_2o0, ?r13_2o1, ?r13_2o2, ?r13_2o3, ?r13_2o4, ?r13_2o5, ?r13_2o6, ?r13_2o7, ?r13_2o8, trivial⟩ ?r13_2e
          case r13_2g =>
            intro j hj; cases hj
          case r13_2s =>
            refine ⟨(fun w w' v hb h => h), (fun w w' v hb h => h), (fun w w' v hb h => h), (fun w w' v hb h => h), (fun w w' v hb h => h), (fun w w' v hb h => let ⟨A, h1, h2⟩ := h; ⟨A, h1, Kd.C_below h2 hb⟩), (fun w w' v hb h => h), (fun w w' v hb h => h), (fun w w' v hb h => h), trivial⟩
          case r13_2o0 =>
            intro vs w hb hV
            rw [if_pos (by kernel_rfl)]
            generalize hρ : rho _ _ _ vs = ρ
            have e11 : ρ (.tmp 11) = .pointer (some ⟨g, 0, none⟩) := by rw [← hρ]; kernel_rfl
            clear hρ hV
            exact runs_load 28 (.tmp 11) rfl g e11 28 T (0, 0) _ ((hb.block g (blk_lt HG2.out)).trans HG2.out) Try.underlying28 rfl Hsz.out ⟨Below.refl _ _, rfl⟩
          case r13_2o1 =>
            intro vs w hb hV
            rw [if_pos (by kernel_rfl)]
            generalize hρ : rho _ _ _ vs = ρ
            have e7 : ρ (.tmp 7) = .slice O own.length oc := by rw [← hρ]; kernel_rfl
            clear hρ hV
            refine runs_val (v := .slice O own.length oc) (w' := w) ?_ ⟨Below.refl _ _, rfl⟩
            go_simp
          case r13_2o2 =>
            intro vs w hb hV
            rw [if_pos (by kernel_rfl)]
            generalize hρ : rho _ _ _ vs = ρ
            have d46 : (vs 0) = .agg T := hV 0 (by kernel_rfl)
            have e46 : ρ (.tmp 46) = vs 0 := by rw [← hρ]; kernel_rfl
            rw [d46] at e46; clear d46
            have d47 : (vs 1) = .slice O own.length oc := hV 1 (by kernel_rfl)
            have e47 : ρ (.tmp 47) = vs 1 := by rw [← hρ]; kernel_rfl
            rw [d47] at e47; clear d47
            have ef13 : ρ (.func 13) = .func (.func 13) #[] #[] := by rw [← hρ]; rfl
            clear hρ hV
            refine runs_call (f := 13) (args := #[.agg T, .slice O own.length oc]) (w' := w) ?_ ?_
            · go_simp
            · refine (sum_any tab T _ _ _ own (sumN tab p) _ HT.out (Kd.C_below HO2.out hb) HX.out.1 (by rw [HP.out])).mono ?_
              rintro e w5 ⟨rfl, hb5⟩
              exact ⟨_, rfl, hb5, rfl⟩
          case r13_2o3 =>
            intro vs w hb hV
            rw [if_pos (by kernel_rfl)]
            generalize hρ : rho _ _ _ vs = ρ
            have e11 : ρ (.tmp 11) = .pointer (some ⟨g, 0, none⟩) := by rw [← hρ]; kernel_rfl
            clear hρ hV
            exact runs_load 28 (.tmp 11) rfl g e11 28 T (0, 0) _ ((hb.block g (blk_lt HG2.out)).trans HG2.out) Try.underlying28 rfl Hsz.out ⟨Below.refl _ _, rfl⟩
          case r13_2o4 =>
            intro vs w hb hV
            rw [if_pos (by kernel_rfl)]
            generalize hρ : rho _ _ _ vs = ρ
            have e10 : ρ (.tmp 10) = .slice Q p.length d := by rw [← hρ]; kernel_rfl
            clear hρ hV
            refine runs_val (v := .slice Q p.length d) (w' := w) ?_ ⟨Below.refl _ _, rfl⟩
            go_simp
          case r13_2o5 =>
            intro vs w hb hV
            rw [if_pos (by kernel_rfl)]
            generalize hρ : rho _ _ _ vs = ρ
            have d50 : (vs 4) = .slice Q p.length d := hV 4 (by kernel_rfl)
            have e50 : ρ (.tmp 50) = vs 4 := by rw [← hρ]; kernel_rfl
            rw [d50] at e50; clear d50
            clear hρ hV
            refine runs_val (v := .slice (some ⟨w.heap.size, 0, none⟩) 1 1) (w' := w.alloc (.cells #[.slice Q p.length d] 22)) ?_ ⟨below_alloc (Below.refl _ _) _, _, rfl, C_one_row rfl (Kd.C_below HC2.out hb) hd⟩
            go_simp
          case r13_2o6 =>
            intro vs w hb hV
            rw [if_pos (by kernel_rfl)]
            generalize hρ : rho _ _ _ vs = ρ
            have d49 : (vs 3) = .agg T := hV 3 (by kernel_rfl)
            have e49 : ρ (.tmp 49) = vs 3 := by rw [← hρ]; kernel_rfl
            rw [d49] at e49; clear d49
            have d51 : (fun (w : World) (v : Value) => ∃ A, v = .slice A 1 1 ∧ (Kd.slice 5 (Kd.int .u8)).C w A 1 [p]) w (vs 5) := hV 5 (by kernel_rfl)
            have e51 : ρ (.tmp 51) = vs 5 := by rw [← hρ]; kernel_rfl
            obtain ⟨A1, h1, hC1⟩ := d51
            have ef13 : ρ (.func 13) = .func (.func 13) #[] #[] := by rw [← hρ]; rfl
            clear hρ hV
            rw [h1] at e51
            refine runs_call (f := 13) (args := #[.agg T, .slice A1 1 1]) (w' := w) ?_ ?_
            · go_simp
            · refine (sum_any tab T _ _ _ [p] (sumN tab p) _ HT.out hC1 (fun x hx => by rw [List.mem_singleton.1 hx]; exact HPB.out) (by simp)).mono ?_
              rintro e w5 ⟨rfl, hb5⟩
              exact ⟨_, rfl, hb5, rfl⟩
          case r13_2o7 =>
            intro vs w hb hV
            rw [if_pos (by kernel_rfl)]
            generalize hρ : rho _ _ _ vs = ρ
            have d48 : (vs 2) = .int .u32 (sumN tab p : Nat) := hV 2 (by kernel_rfl)
            have e48 : ρ (.tmp 48) = vs 2 := by rw [← hρ]; kernel_rfl
            rw [d48] at e48; clear d48
            have d52 : (vs 6) = .int .u32 (sumN tab p : Nat) := hV 6 (by kernel_rfl)
            have e52 : ρ (.tmp 52) = vs 6 := by rw [← hρ]; kernel_rfl
            rw [d52] at e52; clear d52
            clear hρ hV
            refine runs_val (v := .bool true) (w' := w) ?_ ⟨Below.refl _ _, rfl⟩
            go_simp
          case r13_2o8 =>
            intro vs w hb hV
            rw [if_pos (by kernel_rfl)]
            generalize hρ : rho _ _ _ vs = ρ
            have d53 : (vs 7) = .bool true := hV 7 (by kernel_rfl)
            have e53 : ρ (.tmp 53) = vs 7 := by rw [← hρ]; kernel_rfl
            clear hρ hV
            refine runs_val (v := vs 7) (w' := w) ?_ ⟨Below.refl _ _, d53⟩
            go_simp
          case r13_2e =>
            intro vs V3 hb3 hV
            have d46 : (vs 0) = .agg T := hV 0 (Nat.le_of_ble_eq_true rfl)
            have d47 : (vs 1) = .slice O own.length oc := hV 1 (Nat.le_of_ble_eq_true rfl)
            have d48 : (vs 2) = .int .u32 (sumN tab p : Nat) := hV 2 (Nat.le_of_ble_eq_true rfl)
            have d49 : (vs 3) = .agg T := hV 3 (Nat.le_of_ble_eq_true rfl)
            have d50 : (vs 4) = .slice Q p.length d := hV 4 (Nat.le_of_ble_eq_true rfl)
            have d51 : (fun (w : World) (v : Value) => ∃ A, v = .slice A 1 1 ∧ (Kd.slice 5 (Kd.int .u8)).C w A 1 [p]) V3 (vs 5) := hV 5 (Nat.le_of_ble_eq_true rfl)
            have d52 : (vs 6) = .int .u32 (sumN tab p : Nat) := hV 6 (Nat.le_of_ble_eq_true rfl)
            have d53 : (vs 7) = .bool true := hV 7 (Nat.le_of_ble_eq_true rfl)
            have d6 : (vs 8) = .bool true := hV 8 (Nat.le_of_ble_eq_true rfl)
            clear hV
            simp only [putAll]
            rw [d46, d47, d48, d49, d50, d52, d53, d6]
            clear d46 d47 d48 d49 d50 d52 d53 d6
            generalize vs 5 = v51 at *
            clear vs
            simp only [Act.put, List.setIfInBounds_toArray, List.set_cons_zero, List.set_cons_succ]
            have HB3 := Aside0.mk (below_step HB2.out hb3)
            clear hb3
            go_wp2
            go_ret
            exact ⟨rfl, HB3.out⟩
      · have hp0 : ((p.length : Int) == 0) = false := by simp; intro h; rw [h] at hpl; exact hpl rfl
        go_frame
        refine region_grown (W := V)
          [fun (w : World) (v : Value) => v = .agg T,
   fun (w : World) (v : Value) => v = .slice O own.length oc,
   fun (w : World) (v : Value) => v = .int .u32 (sumN tab p : Nat),
   fun (w : World) (v : Value) => v = .agg T,
   fun (w : World) (v : Value) => v = .slice Q p.length d,
   fun (w : World) (v : Value) => ∃ A, v = .slice A 1 1 ∧ (Kd.slice 5 (Kd.int .u8)).C w A 1 [p],
   fun (w : World) (v : Value) => v = .int .u32 (sumN tab p : Nat),
   fun (w : World) (v : Value) => v = .bool false,
   fun (w : World) (v : Value) => v = .bool false,
   fun (w : World) (v : Value) => v = .slice Q p.length d,
   fun (w : World) (v : Value) => v = .int .i64 p.length,
   fun (w : World) (v : Value) => v = .bool false,
   fun (w : World) (v : Value) => v = .bool false]
          (fun j => if j = 8 then some false else none)
          [(0, some 33), (1, some 34), (2, some 35), (3, some 36), (4, some 37), (5, some 38), (6, some 39), (7, some 40), (8, some 41), (9, some 42), (10, some 43), (11, some 44), (12, some 45)]
          [8]
          (by kernel_rfl) (by kernel_rfl) (by kernel_rfl) (by kernel_rfl) ?r12_3g ?r12_3s ⟨?r12_3o0, ?r12_3o1, ?r12_3o2, ?r12_3o3, ?r12_3o4, ?r12_3o5, ?r12_3o6, ?r12_3o7, ?r12_3o8, ?r12_3o9, ?r12_3o10, ?r12_3o11, ?r12_3o12, trivial⟩ ?r12_3e
        case r12_3g =>
          intro j hj w v hv
          simp only [List.mem_cons, List.not_mem_nil, or_false] at hj
          rcases hj with rfl
          · have hv' : v = .bool false := hv; rw [hv']; rfl
        case r12_3s =>
          refine ⟨(fun w w' v hb h => h), (fun w w' v hb h => h), (fun w w' v hb h => h), (fun w w' v hb h => h), (fun w w' v hb h => h), (fun w w' v hb h => let ⟨A, h1, h2⟩ := h; ⟨A, h1, Kd.C_below h2 hb⟩), (fun w w' v hb h => h), (fun w w' v hb h => h), (fun w w' v hb h => h), (fun w w' v hb h => h), (fun w w' v hb h => h), (fun w w' v hb h => h), (fun w w' v hb h => h), trivial⟩
        case r12_3o0 =>
          intro vs w hb hV
          rw [if_pos (by kernel_rfl)]
          generalize hρ : rho _ _ _ vs = ρ
          have e11 : ρ (.tmp 11) = .pointer (some ⟨g, 0, none⟩) := by rw [← hρ]; kernel_rfl
          clear hρ hV
          exact runs_load 28 (.tmp 11) rfl g e11 28 T (0, 0) _ ((hb.block g (blk_lt HGV.out)).trans HGV.out) Try.underlying28 rfl Hsz.out ⟨Below.refl _ _, rfl⟩
        case r12_3o1 =>
          intro vs w hb hV
          rw [if_pos (by kernel_rfl)]
          generalize hρ : rho _ _ _ vs = ρ
          have e7 : ρ (.tmp 7) = .slice O own.length oc := by rw [← hρ]; kernel_rfl
          clear hρ hV
          refine runs_val (v := .slice O own.length oc) (w' := w) ?_ ⟨Below.refl _ _, rfl⟩
          go_simp
        case r12_3o2 =>
          intro vs w hb hV
          rw [if_pos (by kernel_rfl)]
          generalize hρ : rho _ _ _ vs = ρ
          have d33 : (vs 0) = .agg T := hV 0 (by kernel_rfl)
          have e33 : ρ (.tmp 33) = vs 0 := by rw [← hρ]; kernel_rfl
          rw [d33] at e33; clear d33
          have d34 : (vs 1) = .slice O own.length oc := hV 1 (by kernel_rfl)
          have e34 : ρ (.tmp 34) = vs 1 := by rw [← hρ]; kernel_rfl
          rw [d34] at e34; clear d34
          have ef13 : ρ (.func 13) = .func (.func 13) #[] #[] := by rw [← hρ]; rfl
          clear hρ hV
          refine runs_call (f := 13) (args := #[.agg T, .slice O own.length oc]) (w' := w) ?_ ?_
          · go_simp
          · refine (sum_any tab T _ _ _ own (sumN tab p) _ HT.out (Kd.C_below HOV.out hb) HX.out.1 (by rw [HP.out])).mono ?_
            rintro e w5 ⟨rfl, hb5⟩
            exact ⟨_, rfl, hb5, rfl⟩
        case r12_3o3 =>
          intro vs w hb hV
          rw [if_pos (by kernel_rfl)]
          generalize hρ : rho _ _ _ vs = ρ
          have e11 : ρ (.tmp 11) = .pointer (some ⟨g, 0, none⟩) := by rw [← hρ]; kernel_rfl
          clear hρ hV
          exact runs_load 28 (.tmp 11) rfl g e11 28 T (0, 0) _ ((hb.block g (blk_lt HGV.out)).trans HGV.out) Try.underlying28 rfl Hsz.out ⟨Below.refl _ _, rfl⟩
        case r12_3o4 =>
          intro vs w hb hV
          rw [if_pos (by kernel_rfl)]
          generalize hρ : rho _ _ _ vs = ρ
          have e10 : ρ (.tmp 10) = .slice Q p.length d := by rw [← hρ]; kernel_rfl
          clear hρ hV
          refine runs_val (v := .slice Q p.length d) (w' := w) ?_ ⟨Below.refl _ _, rfl⟩
          go_simp
        case r12_3o5 =>
          intro vs w hb hV
          rw [if_pos (by kernel_rfl)]
          generalize hρ : rho _ _ _ vs = ρ
          have d37 : (vs 4) = .slice Q p.length d := hV 4 (by kernel_rfl)
          have e37 : ρ (.tmp 37) = vs 4 := by rw [← hρ]; kernel_rfl
          rw [d37] at e37; clear d37
          clear hρ hV
          refine runs_val (v := .slice (some ⟨w.heap.size, 0, none⟩) 1 1) (w' := w.alloc (.cells #[.slice Q p.length d] 22)) ?_ ⟨below_alloc (Below.refl _ _) _, _, rfl, C_one_row rfl (Kd.C_below HCV.out hb) hd⟩
          go_simp
        case r12_3o6 =>
          intro vs w hb hV
          rw [if_pos (by kernel_rfl)]
          generalize hρ : rho _ _ _ vs = ρ
          have d36 : (vs 3) = .agg T := hV 3 (by kernel_rfl)
          have e36 : ρ (.tmp 36) = vs 3 := by rw [← hρ]; kernel_rfl
          rw [d36] at e36; clear d36
          have d38 : (fun (w : World) (v : Value) => ∃ A, v = .slice A 1 1 ∧ (Kd.slice 5 (Kd.int .u8)).C w A 1 [p]) w (vs 5) := hV 5 (by kernel_rfl)
          have e38 : ρ (.tmp 38) = vs 5 := by rw [← hρ]; kernel_rfl
          obtain ⟨A1, h1, hC1⟩ := d38
          have ef13 : ρ (.func 13) = .func (.func 13) #[] #[] := by rw [← hρ]; rfl
          clear hρ hV
          rw [h1] at e38
          refine runs_call (f := 13) (args := #[.agg T, .slice A1 1 1]) (w' := w) ?_ ?_
          · go_simp
          · refine (sum_any tab T _ _ _ [p] (sumN tab p) _ HT.out hC1 (fun x hx => by rw [List.mem_singleton.1 hx]; exact HPB.out) (by simp)).mono ?_
            rintro e w5 ⟨rfl, hb5⟩
            exact ⟨_, rfl, hb5, rfl⟩
        case r12_3o7 =>
          intro vs w hb hV
          rw [if_pos (by kernel_rfl)]
          generalize hρ : rho _ _ _ vs = ρ
          have d35 : (vs 2) = .int .u32 (sumN tab p : Nat) := hV 2 (by kernel_rfl)
          have e35 : ρ (.tmp 35) = vs 2 := by rw [← hρ]; kernel_rfl
          rw [d35] at e35; clear d35
          have d39 : (vs 6) = .int .u32 (sumN tab p : Nat) := hV 6 (by kernel_rfl)
          have e39 : ρ (.tmp 39) = vs 6 := by rw [← hρ]; kernel_rfl
          rw [d39] at e39; clear d39
          clear hρ hV
          refine runs_val (v := .bool false) (w' := w) ?_ ⟨Below.refl _ _, rfl⟩
          go_simp
        case r12_3o8 =>
          intro vs w hb hV
          rw [if_pos (by kernel_rfl)]
          generalize hρ : rho _ _ _ vs = ρ
          have d40 : (vs 7) = .bool false := hV 7 (by kernel_rfl)
          have e40 : ρ (.tmp 40) = vs 7 := by rw [← hρ]; kernel_rfl
          clear hρ hV
          refine runs_val (v := vs 7) (w' := w) ?_ ⟨Below.refl _ _, d40⟩
          go_simp
        case r12_3o9 =>
          intro vs w hb hV
          rw [if_pos (by kernel_rfl)]
          generalize hρ : rho _ _ _ vs = ρ
          have e10 : ρ (.tmp 10) = .slice Q p.length d := by rw [← hρ]; kernel_rfl
          clear hρ hV
          refine runs_val (v := .slice Q p.length d) (w' := w) ?_ ⟨Below.refl _ _, rfl⟩
          go_simp
        case r12_3o10 =>
          intro vs w hb hV
          rw [if_pos (by kernel_rfl)]
          generalize hρ : rho _ _ _ vs = ρ
          have d42 : (vs 9) = .slice Q p.length d := hV 9 (by kernel_rfl)
          have e42 : ρ (.tmp 42) = vs 9 := by rw [← hρ]; kernel_rfl
          rw [d42] at e42; clear d42
          clear hρ hV
          refine runs_val (v := .int .i64 p.length) (w' := w) ?_ ⟨Below.refl _ _, rfl⟩
          go_simp
        case r12_3o11 =>
          intro vs w hb hV
          rw [if_pos (by kernel_rfl)]
          generalize hρ : rho _ _ _ vs = ρ
          have d43 : (vs 10) = .int .i64 p.length := hV 10 (by kernel_rfl)
          have e43 : ρ (.tmp 43) = vs 10 := by rw [← hρ]; kernel_rfl
          rw [d43] at e43; clear d43
          have econ : ∀ v : Value, ρ (.const v) = v := fun v => by rw [← hρ]; rfl
          clear hρ hV
          refine runs_val (v := .bool false) (w' := w) ?_ ⟨Below.refl _ _, rfl⟩
          go_simp
        case r12_3o12 =>
          intro vs w hb hV
          rw [if_pos (by kernel_rfl)]
          generalize hρ : rho _ _ _ vs = ρ
          have d41 : (vs 8) = .bool false := hV 8 (by kernel_rfl)
          have e41 : ρ (.tmp 41) = vs 8 := by rw [← hρ]; kernel_rfl
          rw [d41] at e41; clear d41
          have d44 : (vs 11) = .bool false := hV 11 (by kernel_rfl)
          have e44 : ρ (.tmp 44) = vs 11 := by rw [← hρ]; kernel_rfl
          rw [d44] at e44; clear d44
          have econ : ∀ v : Value, ρ (.const v) = v := fun v => by rw [← hρ]; rfl
          clear hρ hV
          refine runs_val (v := .bool false) (w' := w) ?_ ⟨Below.refl _ _, rfl⟩
          go_simp
        case r12_3e =>
          intro vs V2 hb2 hV
          have d33 : (vs 0) = .agg T := hV 0 (Nat.le_of_ble_eq_true rfl)
          have d34 : (vs 1) = .slice O own.length oc := hV 1 (Nat.le_of_ble_eq_true rfl)
          have d35 : (vs 2) = .int .u32 (sumN tab p : Nat) := hV 2 (Nat.le_of_ble_eq_true rfl)
          have d36 : (vs 3) = .agg T := hV 3 (Nat.le_of_ble_eq_true rfl)
          have d37 : (vs 4) = .slice Q p.length d := hV 4 (Nat.le_of_ble_eq_true rfl)
          have d38 : (fun (w : World) (v : Value) => ∃ A, v = .slice A 1 1 ∧ (Kd.slice 5 (Kd.int .u8)).C w A 1 [p]) V2 (vs 5) := hV 5 (Nat.le_of_ble_eq_true rfl)
          have d39 : (vs 6) = .int .u32 (sumN tab p : Nat) := hV 6 (Nat.le_of_ble_eq_true rfl)
          have d40 : (vs 7) = .bool false := hV 7 (Nat.le_of_ble_eq_true rfl)
          have d41 : (vs 8) = .bool false := hV 8 (Nat.le_of_ble_eq_true rfl)
          have d42 : (vs 9) = .slice Q p.length d := hV 9 (Nat.le_of_ble_eq_true rfl)
          have d43 : (vs 10) = .int .i64 p.length := hV 10 (Nat.le_of_ble_eq_true rfl)
          have d44 : (vs 11) = .bool false := hV 11 (Nat.le_of_ble_eq_true rfl)
          have d45 : (vs 12) = .bool false := hV 12 (Nat.le_of_ble_eq_true rfl)
          clear hV
          simp only [putAll]
          rw [d33, d34, d35, d36, d37, d39, d40, d41, d42, d43, d44, d45]
          clear d33 d34 d35 d36 d37 d39 d40 d41 d42 d43 d44 d45
          generalize vs 5 = v38 at *
          clear vs
          simp only [Act.put, List.setIfInBounds_toArray, List.set_cons_zero, List.set_cons_succ]
          have HB2 := Aside0.mk (below_step HBV.out hb2)
          have HG2 := Aside0.mk ((hb2.block g (blk_lt HGV.out)).trans HGV.out)
          have HC2 := Aside0.mk (Kd.C_below HCV.out hb2)
          have HO2 := Aside0.mk (Kd.C_below HOV.out hb2)
          clear hb2 HBV HGV HCV HOV d38
          go_wp2_with fail
          refine (join_any _ _ _ [p] _ (C_one_row rfl HC2.out hd) (Nat.le_refl _) (by have := HPL.out; simp; omega)).mono ?_
          rintro e w4 ⟨v4, rfl, ho4, hb4⟩
          rw [List.flatten_cons, List.flatten_nil, List.append_nil] at ho4
          have hown := Kd.own_of_R (enc := Value.int .u8) (h1 := fun _ => rfl) ho4
          obtain ⟨gq, cq, rfl, hgb, hgl⟩ := hown.form (by omega)
          have hgb2 : V2.heap.size ≤ gq := by have : V2.heap.size + 1 ≤ gq := by simpa using hgb
                                              omega
          have hB4 : Below V2.heap.size V2 w4 := below_step (below_alloc (Below.refl _ _) _) hb4
          obtain ⟨a, rfl⟩ := Int.eq_ofNat_of_zero_le hat.1
          obtain ⟨tn, rfl⟩ := Int.eq_ofNat_of_zero_le hturn.1
          have hjl : a % p.length < p.length := Nat.mod_lt _ (by omega)
          have hje : (a : Int) % (p.length : Int) = ((a % p.length : Nat) : Int) := rfl
          obtain ⟨b, hbe, hbl⟩ := HPB.out.nat hjl
          have hat2 := own_at (k := .u8) hown ((a % p.length : Nat) : Int) (by omega) (by omega)
          rw [Int.toNat_natCast, rd_getElem hjl, hbe] at hat2
          obtain ⟨hcq, hfq⟩ := hat2
          have hst := (own_store (k := .u8) hown ((a % p.length : Nat) : Int) ((b ^^^ tn : Nat) : Int)).1
          rw [Int.toNat_natCast] at hst
          have hx : bits .xor .u8 (b : Int) (tn : Int) = ((b ^^^ tn : Nat) : Int) := u8_xor_nat b tn hbl (by omega)
          have hxl : b ^^^ tn < 256 := Nat.xor_lt_two_pow (n := 8) (by omega) (by omega)
          have HSET := Aside0.mk (sumN_set HPB.out hjl (x := ((b ^^^ tn : Nat) : Int)) (by omega))
          rw [hbe] at HSET
          have HQB : Aside0 (Bytes (p.set (a % p.length) ((b ^^^ tn : Nat) : Int))) := ⟨fun y hy => by
            rcases List.mem_or_eq_of_mem_set hy with h | h
            · exact HPB.out y h
            · rw [h]; omega⟩
          have HQL : Aside0 ((p.set (a % p.length) ((b ^^^ tn : Nat) : Int)).length = p.length) := ⟨List.length_set ..⟩
          have HST := Aside0.mk hst
          have HB4 := Aside0.mk hB4
          have HJ := Lib.hid hje
          have HBE := Lib.hid hbe
          clear hown ho4 hb4 hB4 hst hbe hgb
          generalize a % p.length = j at *
          have hp1 : (1 : Int) ≤ (p.length : Int) := by omega
          have hje2 := HJ.out
          clear HJ hje
          go_wp2
          obtain ⟨W6, hW6⟩ : ∃ W6, W6 = w4.setCell ⟨gq, j, none⟩ (.int .u8 ((b ^^^ tn : Nat) : Int)) := ⟨_, rfl⟩
          rw [← hW6]
          rw [← hW6] at HST
          have HB6 := Aside0.mk (show Below V2.heap.size V2 W6 from by rw [hW6]; exact HB4.out.setCell hgb2 _)
          have hR := Kd.R_of_own (enc := Value.int .u8) (h1 := fun _ => rfl) (xs := p.set j ((b ^^^ tn : Nat) : Int)) (ok := fun _ => True) (by rw [HQL.out]; exact HST.out) (fun _ _ => trivial)
          rw [← HQL.out] at hR
          obtain ⟨Q6, c6, e6, hc6, hC6⟩ := Kd.R_reads hR
          injection e6 with e1 e2 e3
          subst e1 e3
          rw [HQL.out] at hc6
          have HG6 := Aside0.mk ((HB6.out.block g (blk_lt HG2.out)).trans HG2.out)
          have HC6 := Aside0.mk (Kd.C_below HC2.out HB6.out)
          have HQ6 : Aside0 ((Kd.int .u8).C W6 (some ⟨gq, 0, none⟩) p.length (p.set j ((b ^^^ tn : Nat) : Int))) := ⟨by have h := hC6; rwa [HQL.out] at h⟩
          have HBW := Aside0.mk (below_step HB2.out HB6.out)
          have HQN := Lib.hid HQL.out
          clear hR hC6 hW6 HST HB4 HB6 HG2 HC2 HO2 HB2 e2
          generalize hq : p.set j ((b ^^^ tn : Nat) : Int) = q at *
          have hqp : q.length = p.length := HQN.out
          have hm1 : ((sumN tab p : Int) == (sumN tab q : Int)) = ((tn : Int) == 0) := by
            rw [Bool.eq_iff_iff, beq_iff_eq, beq_iff_eq]
            have h1 : (sumN tab p : Int) = (sumN tab q : Int) ↔ sumN tab q = sumN tab p := by omega
            rw [h1, HSET.out]
            constructor
            · intro h
              have h2 : b ^^^ tn = b := by omega
              have h3 : b ^^^ (b ^^^ tn) = 0 := by rw [h2, Nat.xor_self]
              rw [← Nat.xor_assoc, Nat.xor_self, Nat.zero_xor] at h3
              omega
            · intro h
              have : tn = 0 := by omega
              rw [this, Nat.xor_zero]
          have HM1 := Lib.hid hm1
          have HQP := Lib.hid hqp
          clear hm1 hqp
          refine region_grown (W := W6)
            [fun (w : World) (v : Value) => v = .agg T,
   fun (w : World) (v : Value) => v = .slice Q p.length d,
   fun (w : World) (v : Value) => ∃ A, v = .slice A 1 1 ∧ (Kd.slice 5 (Kd.int .u8)).C w A 1 [p],
   fun (w : World) (v : Value) => v = .int .u32 (sumN tab p : Nat),
   fun (w : World) (v : Value) => v = .agg T,
   fun (w : World) (v : Value) => v = .slice (some ⟨gq, 0, none⟩) p.length cq,
   fun (w : World) (v : Value) => ∃ A, v = .slice A 1 1 ∧ (Kd.slice 5 (Kd.int .u8)).C w A 1 [q],
   fun (w : World) (v : Value) => v = .int .u32 (sumN tab q : Nat),
   fun (w : World) (v : Value) => v = .bool ((tn : Int) == 0),
   fun (w : World) (v : Value) => v = .int .u8 tn,
   fun (w : World) (v : Value) => v = .bool ((tn : Int) == 0),
   fun (w : World) (v : Value) => v = .bool true,
   fun (w : World) (v : Value) => v = .bool true]
            (fun j =>  none)
            [(0, some 68), (1, some 69), (2, some 70), (3, some 71), (4, some 72), (5, some 73), (6, some 74), (7, some 75), (8, some 76), (9, some 77), (10, some 78), (11, some 79), (12, some 6)]
            []
            (by kernel_rfl) (by kernel_rfl) (by kernel_rfl) (by kernel_rfl) ?r16_4g ?r16_4s ⟨?r16_4o0, ?r16_4o1, ?r16_4o2, ?r16_4o3, ?r16_4o4, ?r16_4o5, ?r16_4o6, ?r16_4o7, ?r16_4o8, ?r16_4o9, ?r16_4o10, ?r16_4o11, ?r16_4o12, trivial⟩ ?r16_4e
          case r16_4g =>
            intro j hj; cases hj
          case r16_4s =>
            refine ⟨(fun w w' v hb h => h), (fun w w' v hb h => h), (fun w w' v hb h => let ⟨A, h1, h2⟩ := h; ⟨A, h1, Kd.C_below h2 hb⟩), (fun w w' v hb h => h), (fun w w' v hb h => h), (fun w w' v hb h => h), (fun w w' v hb h => let ⟨A, h1, h2⟩ := h; ⟨A, h1, Kd.C_below h2 hb⟩), (fun w w' v hb h => h), (fun w w' v hb h => h), (fun w w' v hb h => h), (fun w w' v hb h => h), (fun w w' v hb h => h), (fun w w' v hb h => h), trivial⟩
          case r16_4o0 =>
            intro vs w hb hV
            rw [if_pos (by kernel_rfl)]
            generalize hρ : rho _ _ _ vs = ρ
            have e11 : ρ (.tmp 11) = .pointer (some ⟨g, 0, none⟩) := by rw [← hρ]; kernel_rfl
            clear hρ hV
            exact runs_load 28 (.tmp 11) rfl g e11 28 T (0, 0) _ ((hb.block g (blk_lt HG6.out)).trans HG6.out) Try.underlying28 rfl Hsz.out ⟨Below.refl _ _, rfl⟩
          case r16_4o1 =>
            intro vs w hb hV
            rw [if_pos (by kernel_rfl)]
            generalize hρ : rho _ _ _ vs = ρ
            have e10 : ρ (.tmp 10) = .slice Q p.length d := by rw [← hρ]; kernel_rfl
            clear hρ hV
            refine runs_val (v := .slice Q p.length d) (w' := w) ?_ ⟨Below.refl _ _, rfl⟩
            go_simp
          case r16_4o2 =>
            intro vs w hb hV
            rw [if_pos (by kernel_rfl)]
            generalize hρ : rho _ _ _ vs = ρ
            have d69 : (vs 1) = .slice Q p.length d := hV 1 (by kernel_rfl)
            have e69 : ρ (.tmp 69) = vs 1 := by rw [← hρ]; kernel_rfl
            rw [d69] at e69; clear d69
            clear hρ hV
            refine runs_val (v := .slice (some ⟨w.heap.size, 0, none⟩) 1 1) (w' := w.alloc (.cells #[.slice Q p.length d] 22)) ?_ ⟨below_alloc (Below.refl _ _) _, _, rfl, C_one_row rfl (Kd.C_below HC6.out hb) hd⟩
            go_simp
          case r16_4o3 =>
            intro vs w hb hV
            rw [if_pos (by kernel_rfl)]
            generalize hρ : rho _ _ _ vs = ρ
            have d68 : (vs 0) = .agg T := hV 0 (by kernel_rfl)
            have e68 : ρ (.tmp 68) = vs 0 := by rw [← hρ]; kernel_rfl
            rw [d68] at e68; clear d68
            have d70 : (fun (w : World) (v : Value) => ∃ A, v = .slice A 1 1 ∧ (Kd.slice 5 (Kd.int .u8)).C w A 1 [p]) w (vs 2) := hV 2 (by kernel_rfl)
            have e70 : ρ (.tmp 70) = vs 2 := by rw [← hρ]; kernel_rfl
            obtain ⟨A1, h1, hC1⟩ := d70
            have ef13 : ρ (.func 13) = .func (.func 13) #[] #[] := by rw [← hρ]; rfl
            clear hρ hV
            rw [h1] at e70
            refine runs_call (f := 13) (args := #[.agg T, .slice A1 1 1]) (w' := w) ?_ ?_
            · go_simp
            · refine (sum_any tab T _ _ _ [p] (sumN tab p) _ HT.out hC1 (fun x hx => by rw [List.mem_singleton.1 hx]; exact HPB.out) (by simp)).mono ?_
              rintro e w5 ⟨rfl, hb5⟩
              exact ⟨_, rfl, hb5, rfl⟩
          case r16_4o4 =>
            intro vs w hb hV
            rw [if_pos (by kernel_rfl)]
            generalize hρ : rho _ _ _ vs = ρ
            have e11 : ρ (.tmp 11) = .pointer (some ⟨g, 0, none⟩) := by rw [← hρ]; kernel_rfl
            clear hρ hV
            exact runs_load 28 (.tmp 11) rfl g e11 28 T (0, 0) _ ((hb.block g (blk_lt HG6.out)).trans HG6.out) Try.underlying28 rfl Hsz.out ⟨Below.refl _ _, rfl⟩
          case r16_4o5 =>
            intro vs w hb hV
            rw [if_pos (by kernel_rfl)]
            generalize hρ : rho _ _ _ vs = ρ
            have e12 : ρ (.tmp 12) = .slice (some ⟨gq, 0, none⟩) p.length cq := by rw [← hρ]; kernel_rfl
            clear hρ hV
            refine runs_val (v := .slice (some ⟨gq, 0, none⟩) p.length cq) (w' := w) ?_ ⟨Below.refl _ _, rfl⟩
            go_simp
          case r16_4o6 =>
            intro vs w hb hV
            rw [if_pos (by kernel_rfl)]
            generalize hρ : rho _ _ _ vs = ρ
            have d73 : (vs 5) = .slice (some ⟨gq, 0, none⟩) p.length cq := hV 5 (by kernel_rfl)
            have e73 : ρ (.tmp 73) = vs 5 := by rw [← hρ]; kernel_rfl
            rw [d73] at e73; clear d73
            clear hρ hV
            refine runs_val (v := .slice (some ⟨w.heap.size, 0, none⟩) 1 1) (w' := w.alloc (.cells #[.slice (some ⟨gq, 0, none⟩) p.length cq] 22)) ?_ ⟨below_alloc (Below.refl _ _) _, _, rfl, C_one_row rfl (Kd.C_below HQ6.out hb) hc6⟩
            go_simp
          case r16_4o7 =>
            intro vs w hb hV
            rw [if_pos (by kernel_rfl)]
            generalize hρ : rho _ _ _ vs = ρ
            have d72 : (vs 4) = .agg T := hV 4 (by kernel_rfl)
            have e72 : ρ (.tmp 72) = vs 4 := by rw [← hρ]; kernel_rfl
            rw [d72] at e72; clear d72
            have d74 : (fun (w : World) (v : Value) => ∃ A, v = .slice A 1 1 ∧ (Kd.slice 5 (Kd.int .u8)).C w A 1 [q]) w (vs 6) := hV 6 (by kernel_rfl)
            have e74 : ρ (.tmp 74) = vs 6 := by rw [← hρ]; kernel_rfl
            obtain ⟨A1, h1, hC1⟩ := d74
            have ef13 : ρ (.func 13) = .func (.func 13) #[] #[] := by rw [← hρ]; rfl
            clear hρ hV
            rw [h1] at e74
            refine runs_call (f := 13) (args := #[.agg T, .slice A1 1 1]) (w' := w) ?_ ?_
            · go_simp
            · refine (sum_any tab T _ _ _ [q] (sumN tab q) _ HT.out hC1 (fun x hx => by rw [List.mem_singleton.1 hx]; exact HQB.out) (by simp)).mono ?_
              rintro e w5 ⟨rfl, hb5⟩
              exact ⟨_, rfl, hb5, rfl⟩
          case r16_4o8 =>
            intro vs w hb hV
            rw [if_pos (by kernel_rfl)]
            generalize hρ : rho _ _ _ vs = ρ
            have d71 : (vs 3) = .int .u32 (sumN tab p : Nat) := hV 3 (by kernel_rfl)
            have e71 : ρ (.tmp 71) = vs 3 := by rw [← hρ]; kernel_rfl
            rw [d71] at e71; clear d71
            have d75 : (vs 7) = .int .u32 (sumN tab q : Nat) := hV 7 (by kernel_rfl)
            have e75 : ρ (.tmp 75) = vs 7 := by rw [← hρ]; kernel_rfl
            rw [d75] at e75; clear d75
            clear hρ hV
            refine runs_val (v := .bool ((tn : Int) == 0)) (w' := w) ?_ ⟨Below.refl _ _, rfl⟩
            rw [← HM1.out]
            go_simp
          case r16_4o9 =>
            intro vs w hb hV
            rw [if_pos (by kernel_rfl)]
            generalize hρ : rho _ _ _ vs = ρ
            have e2 : ρ (.tmp 2) = .int .u8 tn := by rw [← hρ]; kernel_rfl
            clear hρ hV
            refine runs_val (v := .int .u8 tn) (w' := w) ?_ ⟨Below.refl _ _, rfl⟩
            go_simp
          case r16_4o10 =>
            intro vs w hb hV
            rw [if_pos (by kernel_rfl)]
            generalize hρ : rho _ _ _ vs = ρ
            have d77 : (vs 9) = .int .u8 tn := hV 9 (by kernel_rfl)
            have e77 : ρ (.tmp 77) = vs 9 := by rw [← hρ]; kernel_rfl
            rw [d77] at e77; clear d77
            have econ : ∀ v : Value, ρ (.const v) = v := fun v => by rw [← hρ]; rfl
            clear hρ hV
            refine runs_val (v := .bool ((tn : Int) == 0)) (w' := w) ?_ ⟨Below.refl _ _, rfl⟩
            go_simp
          case r16_4o11 =>
            intro vs w hb hV
            rw [if_pos (by kernel_rfl)]
            generalize hρ : rho _ _ _ vs = ρ
            have d76 : (vs 8) = .bool ((tn : Int) == 0) := hV 8 (by kernel_rfl)
            have e76 : ρ (.tmp 76) = vs 8 := by rw [← hρ]; kernel_rfl
            rw [d76] at e76; clear d76
            have d78 : (vs 10) = .bool ((tn : Int) == 0) := hV 10 (by kernel_rfl)
            have e78 : ρ (.tmp 78) = vs 10 := by rw [← hρ]; kernel_rfl
            rw [d78] at e78; clear d78
            clear hρ hV
            refine runs_val (v := .bool true) (w' := w) ?_ ⟨Below.refl _ _, rfl⟩
            go_simp
          case r16_4o12 =>
            intro vs w hb hV
            rw [if_pos (by kernel_rfl)]
            generalize hρ : rho _ _ _ vs = ρ
            have d79 : (vs 11) = .bool true := hV 11 (by kernel_rfl)
            have e79 : ρ (.tmp 79) = vs 11 := by rw [← hρ]; kernel_rfl
            clear hρ hV
            refine runs_val (v := vs 11) (w' := w) ?_ ⟨Below.refl _ _, d79⟩
            go_simp
          case r16_4e =>
            intro vs V3 hb3 hV
            have d68 : (vs 0) = .agg T := hV 0 (Nat.le_of_ble_eq_true rfl)
            have d69 : (vs 1) = .slice Q p.length d := hV 1 (Nat.le_of_ble_eq_true rfl)
            have d70 : (fun (w : World) (v : Value) => ∃ A, v = .slice A 1 1 ∧ (Kd.slice 5 (Kd.int .u8)).C w A 1 [p]) V3 (vs 2) := hV 2 (Nat.le_of_ble_eq_true rfl)
            have d71 : (vs 3) = .int .u32 (sumN tab p : Nat) := hV 3 (Nat.le_of_ble_eq_true rfl)
            have d72 : (vs 4) = .agg T := hV 4 (Nat.le_of_ble_eq_true rfl)
            have d73 : (vs 5) = .slice (some ⟨gq, 0, none⟩) p.length cq := hV 5 (Nat.le_of_ble_eq_true rfl)
            have d74 : (fun (w : World) (v : Value) => ∃ A, v = .slice A 1 1 ∧ (Kd.slice 5 (Kd.int .u8)).C w A 1 [q]) V3 (vs 6) := hV 6 (Nat.le_of_ble_eq_true rfl)
            have d75 : (vs 7) = .int .u32 (sumN tab q : Nat) := hV 7 (Nat.le_of_ble_eq_true rfl)
            have d76 : (vs 8) = .bool ((tn : Int) == 0) := hV 8 (Nat.le_of_ble_eq_true rfl)
            have d77 : (vs 9) = .int .u8 tn := hV 9 (Nat.le_of_ble_eq_true rfl)
            have d78 : (vs 10) = .bool ((tn : Int) == 0) := hV 10 (Nat.le_of_ble_eq_true rfl)
            have d79 : (vs 11) = .bool true := hV 11 (Nat.le_of_ble_eq_true rfl)
            have d6 : (vs 12) = .bool true := hV 12 (Nat.le_of_ble_eq_true rfl)
            clear hV
            simp only [putAll]
            rw [d68, d69, d71, d72, d73, d75, d76, d77, d78, d79, d6]
            clear d68 d69 d71 d72 d73 d75 d76 d77 d78 d79 d6
            generalize vs 2 = v70 at *
            generalize vs 6 = v74 at *
            clear vs
            simp only [Act.put, List.setIfInBounds_toArray, List.set_cons_zero, List.set_cons_succ]
            have HB3 := Aside0.mk (below_step HBW.out hb3)
            clear hb3
            go_wp2
            go_ret
            exact ⟨rfl, HB3.out⟩

end Go.Proofs.Ytadodibnjdeckaa
