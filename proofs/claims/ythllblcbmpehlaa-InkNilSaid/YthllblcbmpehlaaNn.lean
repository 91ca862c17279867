/- What is taken is what is laid: plain laws. -/
import Derived.Test.YthllblcbmpehlaaNm
namespace Go.Proofs.Ythllblcbmpehlaa
open Go.RowKit Go.Proofs.YthllblcbmpehlaaW.PrintWords Go.Proofs.YthllblcbmpehlaaW.PrintLast Go.Proofs.YthllblcbmpehlaaW.PrintMore
set_option linter.unusedVariables false
set_option linter.unusedSimpArgs false

theorem leN_low : ∀ (t : List Int), Bytes t → lowN (leN t).toNat t.length = t
  | [], _ => rfl
  | b :: t, h => by
    have h1 := leN_bounds t (fun x hx => h x (List.mem_cons_of_mem _ hx))
    have h2 := h b (by simp)
    have ih := leN_low t (fun x hx => h x (List.mem_cons_of_mem _ hx))
    simp only [leN, List.length_cons, lowN]
    have e1 : (b + 256 * leN t).toNat % 256 = b.toNat := by omega
    have e2 : (b + 256 * leN t).toNat / 256 = (leN t).toNat := by omega
    rw [e1, e2, ih]
    congr 1
    omega
theorem low_leN : ∀ (s x : Nat), x < 256 ^ s → leN (lowN x s) = (x : Int)
  | 0, x, h => by simp at h; subst h; rfl
  | s + 1, x, h => by
    simp only [lowN, leN]
    rw [low_leN s (x / 256) (Nat.div_lt_of_lt_mul (by rw [Nat.pow_succ] at h; omega))]
    omega
/-- What has been read as a number is what it is laid as. -/
theorem numR_lay : ∀ (l : List Int), Bytes l → ∀ (sh acc n : Nat) (l' : List Int), numR sh acc l = some (n, l') → ∃ m, n = acc + m * 2 ^ sh ∧ l = numN m ++ l' ∧ (0 < sh → m ≠ 0)
  | [], _, sh, acc, n, l', h => by cases h
  | b :: l, hb, sh, acc, n, l', h => by
    have h2 := hb b (by simp)
    simp only [numR] at h
    split at h
    · cases h
    · rename_i hf
      split at h
      · rename_i h8
        simp only [Option.some.injEq, Prod.mk.injEq] at h
        obtain ⟨rfl, rfl⟩ := h
        refine ⟨b.toNat, by rw [Nat.mod_eq_of_lt (by omega)], ?_, fun h0 e => hf (.inl ⟨h0, by omega⟩)⟩
        rw [numN_lo (by omega)]
        simp; omega
      · rename_i h8
        obtain ⟨m, hm, hl, hm0⟩ := numR_lay l (fun x hx => hb x (List.mem_cons_of_mem _ hx)) (sh + 7) _ n l' h
        have hm0' := hm0 (by omega)
        refine ⟨b.toNat % 128 + 128 * m, ?_, ?_, fun _ => by omega⟩
        · rw [hm, Nat.pow_add, Nat.add_mul]
          have : m * (2 ^ sh * 2 ^ 7) = 128 * m * 2 ^ sh := by rw [show (2 : Nat) ^ 7 = 128 from rfl, ← Nat.mul_assoc, Nat.mul_comm (m * 2 ^ sh) 128, ← Nat.mul_assoc]
          omega
        · rw [numN_hi (by omega), hl, List.cons_append]
          congr 1
          · omega
          · congr 2
            omega
theorem eNum_lay {most : Nat} {l l' : List Int} {n : Int} (hb : Bytes l) (h : eNum most l false = (n, l', false)) : ∃ m : Nat, n = m ∧ l = numN m ++ l' ∧ m ≤ most ∧ m < 18446744073709551616 := by
  unfold eNum numB at h
  rw [if_neg (by decide)] at h
  cases hr : numR 0 0 l with
  | none => rw [hr] at h; simp [eRes] at h
  | some p =>
    obtain ⟨k, q⟩ := p
    rw [hr] at h
    simp only [eRes] at h
    split at h
    · simp at h
    · rename_i hm
      simp only [Prod.mk.injEq] at h
      obtain ⟨rfl, rfl, _⟩ := h
      obtain ⟨m, h1, h2, _⟩ := numR_lay l hb 0 0 k q hr
      have := numR_u64 0 l 0 0 k q hr (by decide) (by decide)
      obtain rfl : k = m := by omega
      exact ⟨k, rfl, h2, by omega, this.1⟩
theorem eTake_bad (x : S30) (l : List Int) : (eTake x l true).2.2 = true := by
  unfold eTake
  split
  · simp [eByte]
  · split
    · simp [eFix]
    · split
      · simp [eFix]
      · split
        · simp [eNum, numB, eRes]
        · simp [eBlob, eNum, numB, eRes]
theorem eFix_lay {k : Nat} {l l' : List Int} {n : Int} (hb : Bytes l) (h : eFix k l false = (n, l', false)) : l = lowN n.toNat k ++ l' := by
  unfold eFix at h
  split at h
  · simp at h
  · rename_i hc
    simp only [Prod.mk.injEq] at h
    obtain ⟨rfl, rfl, _⟩ := h
    have hk : (l.take k).length = k := by rw [List.length_take]; have : ¬ l.length < k := fun h => hc (.inr h); omega
    have := leN_low (l.take k) (hb.take k)
    rw [hk] at this
    rw [this, List.take_append_drop]
theorem eByte_lay {l l' : List Int} {n : Int} (hb : Bytes l) (h : eByte l false = (n, l', false)) : l = lowN n.toNat 1 ++ l' := by
  unfold eByte at h
  split at h
  · simp at h
  · rename_i hc
    simp only [Prod.mk.injEq] at h
    obtain ⟨rfl, rfl, _⟩ := h
    match l, hc, hb with
    | [], hc, _ => exact absurd (.inr (by simp)) hc
    | b :: t, _, hb =>
      have := hb b (by simp)
      simp [lowN]; omega
theorem take_lay {x : S30} {l l' bs : List Int} {n : Int} (hb : Bytes l) (h : eTake x l false = ((n, bs), l', false)) : l = layN ⟨x.f0, n, bs, x.f3⟩ ++ l' := by
  unfold eTake at h
  unfold layN
  simp only
  split at h
  · rename_i h0
    rw [if_pos h0]
    simp only [Prod.mk.injEq] at h
    exact eByte_lay hb (by rw [Prod.ext_iff, Prod.ext_iff]; exact ⟨h.1.1, by rw [h.2], by rw [h.2]⟩)
  · rename_i h0
    rw [if_neg h0]
    split at h
    · rename_i h1
      rw [if_pos h1]
      simp only [Prod.mk.injEq] at h
      exact eFix_lay hb (by rw [Prod.ext_iff, Prod.ext_iff]; exact ⟨h.1.1, by rw [h.2], by rw [h.2]⟩)
    · rename_i h1
      rw [if_neg h1]
      split at h
      · rename_i h2
        rw [if_pos h2]
        simp only [Prod.mk.injEq] at h
        exact eFix_lay hb (by rw [Prod.ext_iff, Prod.ext_iff]; exact ⟨h.1.1, by rw [h.2], by rw [h.2]⟩)
      · rename_i h2
        rw [if_neg h2]
        split at h
        · rename_i h3
          rw [if_pos h3]
          simp only [Prod.mk.injEq] at h
          obtain ⟨m, rfl, e, _⟩ := eNum_lay (n := n) (l' := l') hb (by rw [Prod.ext_iff, Prod.ext_iff]; exact ⟨h.1.1, by rw [h.2], by rw [h.2]⟩)
          exact e
        · rename_i h3
          rw [if_neg h3]
          simp only [Prod.mk.injEq] at h
          obtain ⟨⟨_, h4⟩, h5⟩ := h
          unfold eBlob at h4 h5
          obtain ⟨⟨k, l1, b1⟩, hk⟩ : ∃ y, eNum x.f3.toNat l false = y := ⟨_, rfl⟩
          rw [hk] at h4 h5
          simp only at h4 h5
          split at h5
          · simp at h5
          · rename_i hc
            rw [if_neg hc] at h4
            simp only [Prod.mk.injEq] at h5
            obtain ⟨rfl, _⟩ := h5
            subst h4
            have hb1 : b1 = false := by cases b1; rfl; exact absurd (.inl rfl) hc
            subst hb1
            obtain ⟨m, rfl, e, _⟩ := eNum_lay hb hk
            rw [Int.toNat_natCast] at *
            have hml : m ≤ l1.length := by rcases Nat.lt_or_ge l1.length m with h | h; exact absurd (.inr h) hc; exact h
            simp only
            rw [List.length_take, Nat.min_eq_left hml, List.append_assoc, List.take_append_drop]
            exact e
/-- Bounds of what is taken. -/
theorem eTake_facts (x : S30) (hx : Fd x) (l : List Int) (bad : Bool) (hb : Bytes l) : Bytes (eTake x l bad).2.1 ∧ (eTake x l bad).2.1.length ≤ l.length ∧ (eTake x l bad).1.2.length ≤ l.length ∧ Fd ⟨x.f0, (eTake x l bad).1.1, (eTake x l bad).1.2, x.f3⟩ := by
  have fx : ∀ k, Bytes (eFix k l bad).2.1 ∧ (eFix k l bad).2.1.length ≤ l.length := fun k => by
    unfold eFix
    split
    · exact ⟨Bytes.nil, Nat.zero_le _⟩
    · exact ⟨hb.drop k, by simp⟩
  have mk : ∀ (n : Int) (bs : List Int), (0 ≤ n ∧ n < 18446744073709551616) → Bytes bs → Fd ⟨x.f0, n, bs, x.f3⟩ := fun n bs h1 h2 => ⟨hx.1, h1, h2, hx.2.2.2⟩
  obtain ⟨k, hk, hk1, hk2, hk3⟩ := eNum_facts x.f3.toNat (by have := hx.2.2.2; omega) l bad hb
  unfold eTake
  split
  · refine ⟨?_, ?_, Nat.zero_le _, mk _ _ (by have := eByte_bounds l bad hb; simp only; omega) Bytes.nil⟩
    · unfold eByte; split
      · exact Bytes.nil
      · exact hb.drop 1
    · unfold eByte; split
      · exact Nat.zero_le _
      · simp
  · split
    · exact ⟨(fx 2).1, (fx 2).2, Nat.zero_le _, mk _ _ (by have := eFix2_bounds l bad hb; simp only; omega) Bytes.nil⟩
    · split
      · exact ⟨(fx 4).1, (fx 4).2, Nat.zero_le _, mk _ _ (by have := eFix4_bounds l bad hb; simp only; omega) Bytes.nil⟩
      · split
        · exact ⟨hk2, hk3, Nat.zero_le _, mk _ _ (by simp only; rw [hk]; have := hx.2.2.2; omega) Bytes.nil⟩
        · unfold eBlob
          obtain ⟨⟨n, l1, b1⟩, hn⟩ : ∃ y, eNum x.f3.toNat l bad = y := ⟨_, rfl⟩
          rw [hn] at hk2 hk3 ⊢
          simp only at hk2 hk3 ⊢
          split
          · exact ⟨Bytes.nil, Nat.zero_le _, Nat.zero_le _, mk _ _ (by simp) Bytes.nil⟩
          · exact ⟨hk2.drop _, by simp; omega, by simp; omega, mk _ _ (by simp) (hk2.take _)⟩
end Go.Proofs.Ythllblcbmpehlaa
