/- What the references of layer 1 come to, further: Low, Value. -/
import Derived.Test.YthllblcbmpehlaaNr
namespace Go.Proofs.Ythllblcbmpehlaa
open Go.RowKit Go.Proofs.YthllblcbmpehlaaW.PrintWords Go.Proofs.YthllblcbmpehlaaW.PrintLast Go.Proofs.YthllblcbmpehlaaW.PrintMore
set_option linter.unusedVariables false
set_option linter.unusedSimpArgs false

theorem wu64 {n : Int} (h : 0 ≤ n ∧ n ≤ 18446744073709551615) : IntKind.u64.wrap n = n := IntWalk.u64_in n h
/-- A number's bytes, the lowest first. -/
def lowN : Nat → Nat → List Int
  | _, 0 => []
  | x, s + 1 => ((x % 256 : Nat) : Int) :: lowN (x / 256) s
theorem lowN_length : ∀ (s x : Nat), (lowN x s).length = s
  | 0, _ => rfl
  | s + 1, x => by show (lowN (x / 256) s).length + 1 = s + 1; rw [lowN_length s]
theorem lowN_bytes : ∀ (s x : Nat), Bytes (lowN x s)
  | 0, _ => Bytes.nil
  | s + 1, x => fun b hb => by
    rcases List.mem_cons.1 hb with rfl | h
    · omega
    · exact lowN_bytes s (x / 256) b h
theorem low_l0 (s : Nat) (hs : s ≤ 1000) : ∀ (d k i x : Nat) (acc : List Int), i + d = s → d < k → x ≤ 18446744073709551615 → acc.length = i →
    hoodwinkref01_Low.l0 k (x : Int) (s : Int) acc (i : Int) = some (acc ++ lowN x d)
  | 0, k, i, x, acc, hi, hk, hx, ha => by
    obtain ⟨k, rfl⟩ : ∃ q, k = q + 1 := ⟨k - 1, by omega⟩
    simp only [hoodwinkref01_Low.l0]
    rw [if_neg (by omega)]; simp [lowN]
  | d + 1, k, i, x, acc, hi, hk, hx, ha => by
    obtain ⟨k, rfl⟩ : ∃ q, k = q + 1 := ⟨k - 1, by omega⟩
    have h1 : Int.tdiv (x : Int) 256 = ((x / 256 : Nat) : Int) := by rw [Int.tdiv_eq_ediv_of_nonneg (by omega)]; rfl
    have h2 : Int.tmod (x : Int) 256 = ((x % 256 : Nat) : Int) := by rw [Int.tmod_eq_emod_of_nonneg (by omega)]; rfl
    have h3 : ((x % 256 : Nat) : Int) % 256 = ((x % 256 : Nat) : Int) := by omega
    have ih := low_l0 s hs d k (i + 1) (x / 256) (acc ++ [((x % 256 : Nat) : Int)]) (by omega) (by omega) (by omega) (by simp [ha])
    simp only [hoodwinkref01_Low.l0]
    rw [if_pos (by omega), if_pos (by omega), h1, h2, h3, wu64 (by omega), next64 (by omega), ih]
    simp [lowN]
theorem low_any (x s : Nat) (w : World) (hx : x ≤ 18446744073709551615) (hs : s ≤ 1000) :
    Calls Try.prog 39 #[.int .u64 x, .int .i64 s] w fun e w' => ∃ v, e = .returned v ∧ (Kd.int .u8).R 5 w' w.heap.size (fun _ => True) v (lowN x s) ∧ Below w.heap.size w w' :=
  hoodwinkref01_Low.calls (s + 1) x s _ w (by
    have := low_l0 s hs s (s + 1) 0 x [] (by omega) (by omega) hx rfl
    simpa [hoodwinkref01_Low.f] using this)

/-- What bytes tell, the lowest first. -/
def valN : List Int → Nat
  | [] => 0
  | b :: l => b.toNat + 256 * valN l
theorem valN_lt : ∀ {l : List Int}, Bytes l → valN l < 256 ^ l.length
  | [], _ => by simp [valN]
  | b :: l, hb => by
    have h1 := valN_lt (l := l) (fun x hx => hb x (List.mem_cons_of_mem _ hx))
    have h2 := hb b List.mem_cons_self
    show b.toNat + 256 * valN l < 256 ^ (l.length + 1)
    rw [Nat.pow_succ]
    omega
theorem value_l0 (l : List Int) (hb : Bytes l) (hl : l.length ≤ 8) : ∀ (i k : Nat), i ≤ l.length → i < k →
    hoodwinkref01_Value.l0 k l (valN (l.drop i) : Nat) ((i : Int) - 1) = some ((valN l : Nat) : Int)
  | 0, k, hi, hk => by
    obtain ⟨k, rfl⟩ : ∃ q, k = q + 1 := ⟨k - 1, by omega⟩
    simp only [hoodwinkref01_Value.l0]
    rw [if_neg (by omega), List.drop_zero]
  | i + 1, k, hi, hk => by
    obtain ⟨k, rfl⟩ : ∃ q, k = q + 1 := ⟨k - 1, by omega⟩
    have ih := value_l0 l hb hl i k (by omega) (by omega)
    have hil : i < l.length := by omega
    have h2 := hb _ (List.getElem_mem hil)
    have h3 : valN (l.drop (i + 1)) < 256 ^ 7 := by
      have := valN_lt (hb.drop (i + 1))
      exact Nat.lt_of_lt_of_le this (Nat.pow_le_pow_right (by omega) (by rw [List.length_drop]; omega))
    have h4 : valN (l.drop i) = l[i].toNat + 256 * valN (l.drop (i + 1)) := by rw [List.drop_eq_getElem_cons hil]; rfl
    simp only [hoodwinkref01_Value.l0]
    rw [show ((i + 1 : Nat) : Int) - 1 = (i : Int) by omega, if_pos (by omega), if_pos (by omega), if_pos (by omega), rd_getElem hil, wu64 (n := 256 * _) (by omega), wu64 (n := l[i]) (by omega), wu64 (by omega), w64 (by omega)]
    rw [← ih, h4]
    congr 1
    omega
theorem value_any (A : Option Addr) (n c : Nat) (l : List Int) (w : World) (hr : (Kd.int .u8).C w A n l) (hc : n ≤ c) (hb : Bytes l) (hl : n ≤ 8) :
    Calls Try.prog 37 #[.slice A n c] w fun e w' => e = .returned (.int .u64 (valN l : Nat)) ∧ Drawn0 w w' := by
  obtain rfl := hr.1
  refine hoodwinkref01_Value.calls (l.length + 1) A c l _ w hr hc ?_
  have := value_l0 l hb hl l.length (l.length + 1) (by omega) (by omega)
  rw [List.drop_length] at this
  unfold hoodwinkref01_Value.f
  rw [w64 (by omega)]
  exact this
end Go.Proofs.Ythllblcbmpehlaa
