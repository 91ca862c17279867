/- clip.Basket.Put: what is taken. -/
import Derived.Test.YtmhninlndjcikaaKp
namespace Go.Proofs.Ytmhninlndjcikaa
open Go.RowKit Go.Proofs.YtmhninlndjcikaaW.PrintWords Go.Proofs.YtmhninlndjcikaaW.PrintLast Go.Proofs.YtmhninlndjcikaaW.PrintMore
set_option linter.unusedVariables false
set_option linter.unusedSimpArgs false

theorem keep_drew {w w1 : World} {g : Nat} {row : Option Nat} (h : KeepBut w w1 g row) : KeepBut w w1.drew g row := h
theorem blk_grown {w w1 : World} {g : Nat} {row : Option Nat} {cs : Array Value} {t : TypeId} {fr : Nat × Nat} (hg : w.grownBy w1 row) (h : w.heap[g]? = some (.cells cs t fr)) (hr : some g ≠ row) : w1.heap[g]? = some (.cells cs t fr) := by
  rw [hg.block g (blk_lt h) hr]; exact h

set_option maxRecDepth 100000 in
set_option maxHeartbeats 8000000 in
theorem put_yes (base g : Nat) (pp q : List Int) (op sk f l : Bool) (v : Value) (A : Option Addr) (n c : Nat) (w : World) (hk : Bk w base g ⟨pp, op, sk⟩ v) (hb : base ≤ g) (hp : pp.length + n ≤ 1024) (hq : (Kd.int .u8).C w A n q) (hc : n ≤ c)
    (hs : sk = true → f = true) (hn : n ≤ 64) (hf : f ≠ op) (hl : l = false → n = 64) :
      Calls Try.prog 15 #[.pointer (some ⟨g, 0, none⟩), .agg #[.bool f, .bool l, .slice A n c]] w fun e w' => ∃ vo v', e = .returned (.tuple #[vo, .bool l, .int .i64 0]) ∧ (Kd.int .u8).R 5 w' base (fun _ => True) vo (if l = true then pp ++ q else []) ∧ Put' w w' base g v (if l = true then ⟨[], false, false⟩ else ⟨pp ++ q, true, false⟩) v' := by
  obtain ⟨Q, d, hv⟩ := Kd.R_slice hk.2
  simp only at hv
  subst hv
  have HK := Aside0.mk (hk.alloc (.cells #[.bool f, .bool l, .slice A n c] 31))
  have HQ := Aside0.mk (Kd.C_alloc hq (.cells #[.bool f, .bool l, .slice A n c] 31))
  have HG := Aside0.mk (blk_lt hk.1)
  have HO := Aside0.mk hk.own
  have c0 := blk_cell HK.out.1 0
  have c1 := blk_cell HK.out.1 1
  have c2 := blk_cell HK.out.1 2
  have f0 := blk_frozen HK.out.1 0
  have f1 := blk_frozen HK.out.1 1
  have f2 := blk_frozen HK.out.1 2
  have h1 : (f == op) = false := by simpa using hf
  have h2 : decide (64 < (n : Int)) = false := decide_eq_false (by omega)
  have h4 : decide ((1024 : Int) < (pp.length : Int) + (n : Int)) = false := decide_eq_false (by omega)
  have h5 : ¬ (1024 : Int) < (pp.length : Int) + (n : Int) := by omega
  have h6 : (pp.length : Int) + (n : Int) ≤ 1024 := by omega
  have h3 : l = true ∨ (l = false ∧ decide ((n : Int) < 64) = false) := by
    cases l
    · exact .inr ⟨rfl, decide_eq_false (by have := hl rfl; omega)⟩
    · exact .inl rfl
  have hsf : sk = false ∨ (sk = true ∧ f = true) := by
    cases sk
    · exact .inl rfl
    · exact .inr ⟨rfl, hs rfl⟩
  have HLN : Aside0 ((pp.length + n) * 1 ≤ 140737488355328) := ⟨by omega⟩
  have HBG := Aside0.mk hb
  have HKW := Aside0.mk hk
  clear hs hl hf hk hq hb hp
  obtain ⟨m, hm⟩ : ∃ m, pp.length = m := ⟨_, rfl⟩
  rw [hm] at h4 h5 h6 c0 c1 c2 HK HO HKW ⊢
  have HM := Aside0.mk hm
  rw [hm] at HLN
  clear hm
  rcases hsf with rfl | ⟨rfl, rfl⟩
  ·
    rcases h3 with rfl | ⟨rfl, h3⟩
    ·
      go_enter Try.func15, Try.ntmps15
      go_wp2_with fail
      go_region
      go_wp2_with fail
      go_region_law (first | (refine R_app_step .u8 (w0 := w.alloc (.cells #[.bool f, .bool true, .slice A n c] 31)) base rfl (.tmp 67) (.tmp 69) 24 5 1 rfl Try.underlying24 wx_info5 (by decide) (.slice Q m d) pp q A n c (fun b => b ≠ g) rfl rfl ?aO ?aR ?aF ?aB ?aS ?aL ?_; (case aO => (repeat (first | exact HK.out.2 | apply Kd.R_drew))); (case aR => (repeat (first | exact HQ.out | apply Kd.C_drew))); (case aF => (intro k hk e; have := HG.out; simp at hk; omega)); (case aB => (repeat (first | exact Below.refl _ _ | apply below_drew1))); (case aS => exact Nat.le_trans HBG.out (Nat.le_of_lt (blk_lt HK.out.1))); (case aL => (rw [HM.out]; exact HLN.out)); intro v1 w1 ho hb hg hat; obtain ⟨Q1, d1, hv1⟩ := Kd.R_slice ho; obtain ⟨ll, hll⟩ : ∃ ll, (pp ++ q).length = ll := ⟨_, rfl⟩; rw [hll] at hv1; clear hll; subst hv1; have hw1 := blk_grown hg HK.out.1 (fun e => (HK.out.2.1 _ e.symm) rfl); have hwb := blk_grown hg (blk_new w _) (fun e => Nat.lt_irrefl _ (HO.out _ e.symm)); have z3 := blk_cell hwb 1; have hgl := HG.out; clear hwb; have z0 := blk_cell hw1 0; have z1 := blk_cell hw1 1; have z2 := blk_cell hw1 2; have y0 := blk_frozen hw1 0; have y1 := blk_frozen hw1 1; have y2 := blk_frozen hw1 2; have HO1 := Aside0.mk ho; have HG1 := Aside0.mk hg; have HA1 := Aside0.mk hat; have HB1 := Aside0.mk hb; have HW1 := Aside0.mk hw1; clear ho hb hg hat hw1))
      all_goals go_wp2_with fail
      all_goals go_ret3
      all_goals
        refine ⟨.slice Q1 ll d1, rfl, ?_, .slice none 0 0, put_alloc (o := .cells #[.bool f, .bool true, .slice A n c] 31) HBG.out HG.out HO.out ⟨⟨?_, Kd.R_nil _ _ _ _ _⟩, ?_, .inl rfl, ?_⟩⟩
        · show (Kd.int .u8).R 5 _ base _ (.slice Q1 ll d1) (pp ++ q)
          refine Kd.R_mono (ok := fun b => b ≠ g) ?_ (fun _ _ => trivial)
          repeat (first | with_reducible refine Kd.R_far ?_ (fun k h => h) _ | with_reducible apply Kd.R_drew | with_reducible exact HO1.out)
        · exact blk_set (blk_set (blk_set (blk_set (blk_set HW1.out 0 _) 1 _) 2 _) 0 _) 1 _
        · repeat (first | with_reducible refine KeepBut.set_ ?_ _ _ | with_reducible refine keep_drew ?_ | exact KeepBut.of_grown HG1.out g)
        · repeat (first | with_reducible refine Below.setCell ?_ HBG.out _ | with_reducible refine Below.drew ?_ | with_reducible exact HB1.out)
    ·
      go_enter Try.func15, Try.ntmps15
      go_wp2_with fail
      go_region
      go_wp2_with fail
      go_region_law (first | (refine R_app_step .u8 (w0 := w.alloc (.cells #[.bool f, .bool false, .slice A n c] 31)) base rfl (.tmp 67) (.tmp 69) 24 5 1 rfl Try.underlying24 wx_info5 (by decide) (.slice Q m d) pp q A n c (fun b => b ≠ g) rfl rfl ?aO ?aR ?aF ?aB ?aS ?aL ?_; (case aO => (repeat (first | exact HK.out.2 | apply Kd.R_drew))); (case aR => (repeat (first | exact HQ.out | apply Kd.C_drew))); (case aF => (intro k hk e; have := HG.out; simp at hk; omega)); (case aB => (repeat (first | exact Below.refl _ _ | apply below_drew1))); (case aS => exact Nat.le_trans HBG.out (Nat.le_of_lt (blk_lt HK.out.1))); (case aL => (rw [HM.out]; exact HLN.out)); intro v1 w1 ho hb hg hat; obtain ⟨Q1, d1, hv1⟩ := Kd.R_slice ho; obtain ⟨ll, hll⟩ : ∃ ll, (pp ++ q).length = ll := ⟨_, rfl⟩; rw [hll] at hv1; clear hll; subst hv1; have hw1 := blk_grown hg HK.out.1 (fun e => (HK.out.2.1 _ e.symm) rfl); have hwb := blk_grown hg (blk_new w _) (fun e => Nat.lt_irrefl _ (HO.out _ e.symm)); have z3 := blk_cell hwb 1; have hgl := HG.out; clear hwb; have z0 := blk_cell hw1 0; have z1 := blk_cell hw1 1; have z2 := blk_cell hw1 2; have y0 := blk_frozen hw1 0; have y1 := blk_frozen hw1 1; have y2 := blk_frozen hw1 2; have HO1 := Aside0.mk ho; have HG1 := Aside0.mk hg; have HA1 := Aside0.mk hat; have HB1 := Aside0.mk hb; have HW1 := Aside0.mk hw1; clear ho hb hg hat hw1))
      all_goals go_wp2_with fail
      all_goals go_ret3
      all_goals
        refine ⟨.slice none 0 0, rfl, Kd.R_nil _ _ _ _ _, .slice Q1 ll d1, put_alloc (o := .cells #[.bool f, .bool false, .slice A n c] 31) HBG.out HG.out HO.out ⟨⟨?_, ?_⟩, ?_, ?_, ?_⟩⟩
        · exact blk_set (blk_set (blk_set HW1.out 0 _) 1 _) 2 _
        · repeat (first | with_reducible refine Kd.R_far ?_ (fun k h => h) _ | with_reducible apply Kd.R_drew | with_reducible exact HO1.out)
        · repeat (first | with_reducible refine KeepBut.set_ ?_ _ _ | with_reducible refine keep_drew ?_ | exact KeepBut.of_grown HG1.out g)
        · exact .inr HA1.out
        · repeat (first | with_reducible refine Below.setCell ?_ HBG.out _ | with_reducible refine Below.drew ?_ | with_reducible exact HB1.out)
  ·
    rcases h3 with rfl | ⟨rfl, h3⟩
    ·
      go_enter Try.func15, Try.ntmps15
      go_wp2_with fail
      go_region
      go_wp2_with fail
      go_region_law (first | (refine R_app_step .u8 (w0 := w.alloc (.cells #[.bool true, .bool true, .slice A n c] 31)) base rfl (.tmp 67) (.tmp 69) 24 5 1 rfl Try.underlying24 wx_info5 (by decide) (.slice Q m d) pp q A n c (fun b => b ≠ g) rfl rfl ?aO ?aR ?aF ?aB ?aS ?aL ?_; (case aO => (repeat (first | exact HK.out.2 | apply Kd.R_drew))); (case aR => (repeat (first | exact HQ.out | apply Kd.C_drew))); (case aF => (intro k hk e; have := HG.out; simp at hk; omega)); (case aB => (repeat (first | exact Below.refl _ _ | apply below_drew1))); (case aS => exact Nat.le_trans HBG.out (Nat.le_of_lt (blk_lt HK.out.1))); (case aL => (rw [HM.out]; exact HLN.out)); intro v1 w1 ho hb hg hat; obtain ⟨Q1, d1, hv1⟩ := Kd.R_slice ho; obtain ⟨ll, hll⟩ : ∃ ll, (pp ++ q).length = ll := ⟨_, rfl⟩; rw [hll] at hv1; clear hll; subst hv1; have hw1 := blk_grown hg HK.out.1 (fun e => (HK.out.2.1 _ e.symm) rfl); have hwb := blk_grown hg (blk_new w _) (fun e => Nat.lt_irrefl _ (HO.out _ e.symm)); have z3 := blk_cell hwb 1; have hgl := HG.out; clear hwb; have z0 := blk_cell hw1 0; have z1 := blk_cell hw1 1; have z2 := blk_cell hw1 2; have y0 := blk_frozen hw1 0; have y1 := blk_frozen hw1 1; have y2 := blk_frozen hw1 2; have HO1 := Aside0.mk ho; have HG1 := Aside0.mk hg; have HA1 := Aside0.mk hat; have HB1 := Aside0.mk hb; have HW1 := Aside0.mk hw1; clear ho hb hg hat hw1))
      all_goals go_wp2_with fail
      all_goals go_ret3
      all_goals
        refine ⟨.slice Q1 ll d1, rfl, ?_, .slice none 0 0, put_alloc (o := .cells #[.bool true, .bool true, .slice A n c] 31) HBG.out HG.out HO.out ⟨⟨?_, Kd.R_nil _ _ _ _ _⟩, ?_, .inl rfl, ?_⟩⟩
        · show (Kd.int .u8).R 5 _ base _ (.slice Q1 ll d1) (pp ++ q)
          refine Kd.R_mono (ok := fun b => b ≠ g) ?_ (fun _ _ => trivial)
          repeat (first | with_reducible refine Kd.R_far ?_ (fun k h => h) _ | with_reducible apply Kd.R_drew | with_reducible exact HO1.out)
        · exact blk_set (blk_set (blk_set (blk_set (blk_set HW1.out 0 _) 1 _) 2 _) 0 _) 1 _
        · repeat (first | with_reducible refine KeepBut.set_ ?_ _ _ | with_reducible refine keep_drew ?_ | exact KeepBut.of_grown HG1.out g)
        · repeat (first | with_reducible refine Below.setCell ?_ HBG.out _ | with_reducible refine Below.drew ?_ | with_reducible exact HB1.out)
    ·
      go_enter Try.func15, Try.ntmps15
      go_wp2_with fail
      go_region
      go_wp2_with fail
      go_region_law (first | (refine R_app_step .u8 (w0 := w.alloc (.cells #[.bool true, .bool false, .slice A n c] 31)) base rfl (.tmp 67) (.tmp 69) 24 5 1 rfl Try.underlying24 wx_info5 (by decide) (.slice Q m d) pp q A n c (fun b => b ≠ g) rfl rfl ?aO ?aR ?aF ?aB ?aS ?aL ?_; (case aO => (repeat (first | exact HK.out.2 | apply Kd.R_drew))); (case aR => (repeat (first | exact HQ.out | apply Kd.C_drew))); (case aF => (intro k hk e; have := HG.out; simp at hk; omega)); (case aB => (repeat (first | exact Below.refl _ _ | apply below_drew1))); (case aS => exact Nat.le_trans HBG.out (Nat.le_of_lt (blk_lt HK.out.1))); (case aL => (rw [HM.out]; exact HLN.out)); intro v1 w1 ho hb hg hat; obtain ⟨Q1, d1, hv1⟩ := Kd.R_slice ho; obtain ⟨ll, hll⟩ : ∃ ll, (pp ++ q).length = ll := ⟨_, rfl⟩; rw [hll] at hv1; clear hll; subst hv1; have hw1 := blk_grown hg HK.out.1 (fun e => (HK.out.2.1 _ e.symm) rfl); have hwb := blk_grown hg (blk_new w _) (fun e => Nat.lt_irrefl _ (HO.out _ e.symm)); have z3 := blk_cell hwb 1; have hgl := HG.out; clear hwb; have z0 := blk_cell hw1 0; have z1 := blk_cell hw1 1; have z2 := blk_cell hw1 2; have y0 := blk_frozen hw1 0; have y1 := blk_frozen hw1 1; have y2 := blk_frozen hw1 2; have HO1 := Aside0.mk ho; have HG1 := Aside0.mk hg; have HA1 := Aside0.mk hat; have HB1 := Aside0.mk hb; have HW1 := Aside0.mk hw1; clear ho hb hg hat hw1))
      all_goals go_wp2_with fail
      all_goals go_ret3
      all_goals
        refine ⟨.slice none 0 0, rfl, Kd.R_nil _ _ _ _ _, .slice Q1 ll d1, put_alloc (o := .cells #[.bool true, .bool false, .slice A n c] 31) HBG.out HG.out HO.out ⟨⟨?_, ?_⟩, ?_, ?_, ?_⟩⟩
        · exact blk_set (blk_set (blk_set HW1.out 0 _) 1 _) 2 _
        · repeat (first | with_reducible refine Kd.R_far ?_ (fun k h => h) _ | with_reducible apply Kd.R_drew | with_reducible exact HO1.out)
        · repeat (first | with_reducible refine KeepBut.set_ ?_ _ _ | with_reducible refine keep_drew ?_ | exact KeepBut.of_grown HG1.out g)
        · exact .inr HA1.out
        · repeat (first | with_reducible refine Below.setCell ?_ HBG.out _ | with_reducible refine Below.drew ?_ | with_reducible exact HB1.out)
end Go.Proofs.Ytmhninlndjcikaa
