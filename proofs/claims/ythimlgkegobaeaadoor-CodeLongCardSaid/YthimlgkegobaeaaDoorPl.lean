/- The document's Low, in plain words. -/
import Derived.Test.YthimlgkegobaeaaDoorPj
namespace Go.Proofs.YthimlgkegobaeaaDoor
open Go.RowKit Go.Proofs.YthimlgkegobaeaaDoorW.PrintWords Go.Proofs.YthimlgkegobaeaaDoorW.PrintLast Go.Proofs.YthimlgkegobaeaaDoorW.PrintMore
set_option linter.unusedVariables false
set_option linter.unusedSimpArgs false

theorem wu64 {n : Int} (h : 0 ≤ n ∧ n ≤ 18446744073709551615) : IntKind.u64.wrap n = n := IntWalk.u64_in n h
/-- A number's bytes, the lowest first. -/
def lowN : Nat → Nat → List Int
  | _, 0 => []
  | x, s + 1 => ((x % 256 : Nat) : Int) :: lowN (x / 256) s
theorem lowN_length : ∀ (s x : Nat), (lowN x s).length = s
  | 0, _ => rfl
  | s + 1, x => by show (lowN (x / 256) s).length + 1 = s + 1; rw [lowN_length s]
theorem lowN_bytes : ∀ (s x : Nat), Bytes (lowN x s)
  | 0, _ => Bytes.nil
  | s + 1, x => fun b hb => by
    rcases List.mem_cons.1 hb with rfl | h
    · omega
    · exact lowN_bytes s (x / 256) b h
theorem low_l0 (s : Nat) (hs : s ≤ 1000) : ∀ (d k i x : Nat) (acc : List Int), i + d = s → d < k → x ≤ 18446744073709551615 → acc.length = i →
    hoodwinkref01_Low.l0 k (x : Int) (s : Int) acc (i : Int) = some (acc ++ lowN x d)
  | 0, k, i, x, acc, hi, hk, hx, ha => by
    obtain ⟨k, rfl⟩ : ∃ q, k = q + 1 := ⟨k - 1, by omega⟩
    simp only [hoodwinkref01_Low.l0]
    rw [if_neg (by omega)]; simp [lowN]
  | d + 1, k, i, x, acc, hi, hk, hx, ha => by
    obtain ⟨k, rfl⟩ : ∃ q, k = q + 1 := ⟨k - 1, by omega⟩
    have h1 : Int.tdiv (x : Int) 256 = ((x / 256 : Nat) : Int) := by rw [Int.tdiv_eq_ediv_of_nonneg (by omega)]; rfl
    have h2 : Int.tmod (x : Int) 256 = ((x % 256 : Nat) : Int) := by rw [Int.tmod_eq_emod_of_nonneg (by omega)]; rfl
    have h3 : ((x % 256 : Nat) : Int) % 256 = ((x % 256 : Nat) : Int) := by omega
    have ih := low_l0 s hs d k (i + 1) (x / 256) (acc ++ [((x % 256 : Nat) : Int)]) (by omega) (by omega) (by omega) (by simp [ha])
    simp only [hoodwinkref01_Low.l0]
    rw [if_pos (by omega), if_pos (by omega), h1, h2, h3, wu64 (by omega), next64 (by omega), ih]
    simp [lowN]
theorem low_any (x s : Nat) (w : World) (hx : x ≤ 18446744073709551615) (hs : s ≤ 1000) :
    Calls Tryd.prog 50 #[.int .u64 x, .int .i64 s] w fun e w' => ∃ v, e = .returned v ∧ (Kd.int .u8).R 5 w' w.heap.size (fun _ => True) v (lowN x s) ∧ Below w.heap.size w w' :=
  hoodwinkref01_Low.calls (s + 1) x s _ w (by
    have := low_l0 s hs s (s + 1) 0 x [] (by omega) (by omega) hx rfl
    simpa [hoodwinkref01_Low.f] using this)

end Go.Proofs.YthimlgkegobaeaaDoor
