/- ink.Eye.Blob; law01: take. -/
import Derived.Test.YthllblcbmpehlaaNk
namespace Go.Proofs.Ythllblcbmpehlaa
open Go.RowKit Go.Proofs.YthllblcbmpehlaaW.PrintWords Go.Proofs.YthllblcbmpehlaaW.PrintLast Go.Proofs.YthllblcbmpehlaaW.PrintMore
set_option linter.unusedVariables false
set_option linter.unusedSimpArgs false

/-- What Blob tells: bytes, what is left, whether it is wrong. -/
def eBlob (most : Nat) (l : List Int) (bad : Bool) : List Int × List Int × Bool :=
  match eNum most l bad with
  | (n, l', b') => if b' = true ∨ l'.length < n.toNat then ([], [], true) else (l'.take n.toNat, l'.drop n.toNat, false)
theorem numR_u64 (h : Nat) : ∀ (l : List Int) (sh acc n : Nat) (l' : List Int), numR sh acc l = some (n, l') → acc < 2 ^ sh → acc < 18446744073709551616 → n < 18446744073709551616 ∧ ∃ t, l = t ++ l'
  | [], sh, acc, n, l', h, _, _ => by cases h
  | b :: l, sh, acc, n, l', h, h1, h2 => by
    simp only [numR] at h
    split at h
    · cases h
    · rename_i hf
      obtain ⟨_, hN1, hN2⟩ := or_u64 acc b.toNat sh h1 (fun h => hf (.inr (.inl h))) (fun h => hf (.inr (.inr h))) h2
      split at h
      · simp only [Option.some.injEq, Prod.mk.injEq] at h
        obtain ⟨rfl, rfl⟩ := h
        exact ⟨hN1, [b], rfl⟩
      · obtain ⟨a1, t, rfl⟩ := numR_u64 0 l (sh + 7) _ n l' h hN2 hN1
        exact ⟨a1, b :: t, rfl⟩
theorem eNum_facts (most : Nat) (hm : most < 18446744073709551616) (l : List Int) (bad : Bool) (hb : Bytes l) : ∃ n : Nat, (eNum most l bad).1 = (n : Int) ∧ n ≤ most ∧ Bytes (eNum most l bad).2.1 ∧ (eNum most l bad).2.1.length ≤ l.length := by
  unfold eNum
  cases hr : numB bad 0 0 l with
  | none => exact ⟨0, rfl, Nat.zero_le _, Bytes.nil, Nat.zero_le _⟩
  | some p =>
    obtain ⟨n, l'⟩ := p
    unfold numB at hr
    split at hr
    · cases hr
    · obtain ⟨h1, t, rfl⟩ := numR_u64 0 l 0 0 n l' hr (by decide) (by decide)
      simp only [eRes]
      split
      · exact ⟨0, rfl, Nat.zero_le _, Bytes.nil, Nat.zero_le _⟩
      · exact ⟨n, rfl, by omega, fun x hx => hb x (List.mem_append_right _ hx), by simp⟩

set_option maxRecDepth 100000 in
set_option maxHeartbeats 4000000 in
theorem eblob_any (g B : Nat) (l : List Int) (bad : Bool) (most : Nat) (w : World) (hk : Ey w g B l bad) (hb : Bytes l) (hl : l.length ≤ 1000000) (hm : most ≤ 9223372036854775807) :
    Calls Try.prog 32 #[.pointer (some ⟨g, 0, none⟩), .int .i64 most] w fun e w' => ∃ w1 vo, e = .returned vo ∧ EyTo w w1 g B (eBlob most l bad).2.1 (eBlob most l bad).2.2 ∧ (Kd.int .u8).R 5 w' w1.heap.size (fun _ => True) vo (eBlob most l bad).1 ∧ Below w1.heap.size w1 w' := by
  unfold eBlob
  have KEY := Aside0.mk (enum_any g B l bad most w hk hb (by omega))
  obtain ⟨n, hn, hn1, hb2, hl2⟩ := eNum_facts most (by omega) l bad hb
  obtain ⟨⟨x, l', b'⟩, hx⟩ : ∃ x, eNum most l bad = x := ⟨_, rfl⟩
  rw [hx] at KEY hn hb2 hl2 ⊢
  simp only at KEY hn hb2 hl2 ⊢
  subst hn
  rw [Int.toNat_natCast]
  have e1 : (if (most : Int) > 0 then (most : Int) else 0) = (most : Int) := by split <;> omega
  have e2 : IntKind.u64.wrap (most : Int) = (most : Int) := by rw [IntKind.wrap_u64]; omega
  have HX := Aside0.mk hx
  have HN1 := Aside0.mk hn1
  have HL := Aside0.mk (Nat.le_trans hl2 hl)
  have HM := Aside0.mk hm
  clear hk hb hl hx hn1 hl2 hb2
  have hmax : max (most : Int) 0 = (most : Int) := by omega
  obtain ⟨⟨rv, rl, rb⟩, hres⟩ : ∃ y, (if b' = true ∨ l'.length < n then (([] : List Int), ([] : List Int), true) else (l'.take n, l'.drop n, false)) = y := ⟨_, rfl⟩
  rw [hres]
  have HRES := Aside0.mk hres
  clear hres
  show Calls Try.prog 32 #[.pointer (some ⟨g, 0, none⟩), .int .i64 most] w fun e w' => ∃ w1 vo, e = .returned vo ∧ EyTo w w1 g B rl rb ∧ (Kd.int .u8).R 5 w' w1.heap.size (fun _ => True) vo rv ∧ Below w1.heap.size w1 w'
  go_enter Try.func32, Try.ntmps32
  go_wp2_with fail
  refine KEY.out.mono ?_
  rintro e w1 ⟨rfl, h⟩
  have H1 := Aside0.mk h
  have KW := Aside0.mk (wrong_any g B l' b' w1 h.1)
  have KF := Aside0.mk (efail_any g B l' b' w1 h.1)
  have hll : l'.length ≤ 1000000 := HL.out
  have hc : b' = true ∨ (b' = false ∧ decide ((l'.length : Int) < (n : Int)) = true ∧ decide (l'.length < n) = true ∧ l'.length < n) ∨ (b' = false ∧ decide ((l'.length : Int) < (n : Int)) = false ∧ decide (l'.length < n) = false ∧ n ≤ l'.length) := by
    cases b'
    · rcases Nat.lt_or_ge l'.length n with h | h
      · exact .inr (.inl ⟨rfl, decide_eq_true (by omega), decide_eq_true h, h⟩)
      · exact .inr (.inr ⟨rfl, decide_eq_false (by omega), decide_eq_false (by omega), h⟩)
    · exact .inl rfl
  obtain ⟨ll, hlen⟩ : ∃ ll, l'.length = ll := ⟨_, rfl⟩
  rw [hlen] at hc hll
  have e3 : IntKind.u64.wrap (ll : Int) = (ll : Int) := by rw [IntKind.wrap_u64]; omega
  have HLEN := Aside0.mk hlen
  obtain ⟨A0, n0, c0', k1, k2, k3, k4, k5⟩ := h.1
  have hn0 : n0 = ll := by rw [← hlen]; exact k2.1.symm
  subst hn0
  have c0 := blk_cell k1 0
  clear h KEY hlen k1 k2 k3 k4 k5 e1
  rcases hc with rfl | ⟨rfl, d1, d1', hlt'⟩ | ⟨rfl, d1, d1', hge⟩
  · have R1 : Aside0 ((rv, rl, rb) = (([] : List Int), ([] : List Int), true)) := ⟨by rw [← HRES.out, if_pos (.inl rfl)]⟩
    obtain ⟨rfl, rfl, rfl⟩ : rv = [] ∧ rl = [] ∧ rb = true := by have := R1.out; simp only [Prod.mk.injEq] at this; exact this
    clear R1 hll
    go_wp2_with fail
    refine KW.out.mono ?_
    rintro e w2 ⟨rfl, rfl⟩
    clear KW
    go_wp2_with fail
    refine KF.out.mono ?_
    rintro e w3 ⟨rfl, h⟩
    have H2 := Aside0.mk (H1.out.trans h)
    clear KF h H1
    go_wp2_with fail
    go_ret
    exact ⟨_, _, rfl, H2.out, Kd.R_nil _ _ _ _ _, Below.refl _ _⟩
  · obtain ⟨rfl, rfl, rfl⟩ : rv = [] ∧ rl = [] ∧ rb = true := by
      have := HRES.out
      rw [if_pos (.inr (by rw [HLEN.out]; exact hlt'))] at this
      simp only [Prod.mk.injEq] at this; exact ⟨this.1.symm, this.2.1.symm, this.2.2.symm⟩
    clear hll hlt'
    go_wp2_with fail
    refine KW.out.mono ?_
    rintro e w2 ⟨rfl, rfl⟩
    clear KW
    go_wp2_with fail
    refine KF.out.mono ?_
    rintro e w3 ⟨rfl, h⟩
    have H2 := Aside0.mk (H1.out.trans h)
    clear KF h H1
    go_wp2_with fail
    go_ret
    exact ⟨_, _, rfl, H2.out, Kd.R_nil _ _ _ _ _, Below.refl _ _⟩
  · obtain ⟨rfl, rfl, rfl⟩ : rv = l'.take n ∧ rl = l'.drop n ∧ rb = false := by
      have := HRES.out
      rw [if_neg (by rw [HLEN.out]; rintro (h | h); cases h; omega)] at this
      simp only [Prod.mk.injEq] at this; exact ⟨this.1.symm, this.2.1.symm, this.2.2.symm⟩
    have KT := Aside0.mk (take_ok g B l' n w1 H1.out.1 (by rw [HLEN.out]; exact hge))
    have e4 : IntKind.i64.wrap (n : Int) = (n : Int) := by rw [IntKind.wrap_i64]; have := HN1.out; have := HM.out; omega
    have HN3 : Aside0 (n ≤ 100000000) := ⟨by omega⟩
    clear hll hge KF
    go_wp2_with fail
    refine KW.out.mono ?_
    rintro e w2 ⟨rfl, rfl⟩
    clear KW
    go_wp2_with fail
    refine KT.out.mono ?_
    rintro e w3 ⟨A', rfl, hC, h⟩
    have H2 := Aside0.mk (H1.out.trans h)
    have KC := Aside0.mk (clone_any A' n n _ w3 hC HN3.out)
    clear KT h H1 hC
    go_wp2_with fail
    refine KC.out.mono ?_
    rintro e w4 ⟨vo, rfl, ho, hb⟩
    have HO := Aside0.mk ho
    have HBB := Aside0.mk hb
    clear KC ho hb
    go_wp2_with fail
    go_ret
    exact ⟨_, _, rfl, H2.out, HO.out, HBB.out⟩
end Go.Proofs.Ythllblcbmpehlaa
