/- Masks as words of 32 bits: plain laws. -/
import Derived.Test.YtkjjmmgngdpppaaUe
namespace Go.Proofs.Ytkjjmmgngdpppaa
open Go.RowKit Go.Proofs.YtkjjmmgngdpppaaW.PrintWords Go.Proofs.YtkjjmmgngdpppaaW.PrintLast Go.Proofs.YtkjjmmgngdpppaaW.PrintMore
set_option linter.unusedVariables false

def bv (m : Int) : BitVec 32 := BitVec.ofInt 32 m
theorem bv_toNat (x : BitVec 32) : bv (x.toNat : Int) = x := by unfold bv; simp
theorem u32_small (x : BitVec 32) : IntKind.u32.wrap (x.toNat : Int) = (x.toNat : Int) := by
  rw [IntKind.wrap_u32']
  have := x.isLt
  omega
theorem and_bv (a b : Int) : bits .and .u32 a b = ((bv a &&& bv b).toNat : Int) := u32_small _
theorem or_bv (a b : Int) : bits .or .u32 a b = ((bv a ||| bv b).toNat : Int) := u32_small _
theorem andNot_bv (a b : Int) : bits .andNot .u32 a b = ((bv a &&& ~~~ bv b).toNat : Int) := u32_small _
theorem bv_or (a b : Int) : bv (bits .or .u32 a b) = bv a ||| bv b := by rw [or_bv, bv_toNat]
theorem bv_and (a b : Int) : bv (bits .and .u32 a b) = bv a &&& bv b := by rw [and_bv, bv_toNat]
theorem bv_andNot (a b : Int) : bv (bits .andNot .u32 a b) = bv a &&& ~~~ bv b := by rw [andNot_bv, bv_toNat]
theorem bv_inj {a b : Int} (ha : 0 ≤ a ∧ a < 4294967296) (hb : 0 ≤ b ∧ b < 4294967296) (h : bv a = bv b) : a = b := by
  have h1 := congrArg BitVec.toNat h
  unfold bv at h1
  rw [BitVec.toNat_ofInt, BitVec.toNat_ofInt] at h1
  omega
theorem bv_back {a : Int} (ha : 0 ≤ a ∧ a < 4294967296) : ((bv a).toNat : Int) = a := by
  unfold bv
  rw [BitVec.toNat_ofInt]
  omega
theorem nat_zero (x : BitVec 32) : ((x.toNat : Int) == 0) = (x == 0#32) := by
  rw [Bool.eq_iff_iff, beq_iff_eq, beq_iff_eq]
  constructor
  · intro h
    exact BitVec.eq_of_toNat_eq (by simpa using h)
  · rintro rfl; rfl
theorem oneN_bv {o : Int} (h0 : 0 ≤ o) (h1 : o < 32) : bv (oneN o) = BitVec.twoPow 32 o.toNat := by
  unfold oneN
  rw [if_neg (by omega), if_neg (by omega)]
  unfold shl bv
  apply BitVec.eq_of_toNat_eq
  have hm : min o.toNat IntKind.u32.bits = o.toNat := Nat.min_eq_left (by show o.toNat ≤ 32; omega)
  rw [hm, IntKind.wrap_u32', BitVec.toNat_ofInt, BitVec.toNat_twoPow]
  have : (1 : Int) * 2 ^ o.toNat = ((2 ^ o.toNat : Nat) : Int) := by push_cast; omega
  rw [this]
  omega
theorem hasB_out (m o : Int) (h : ¬ (0 ≤ o ∧ o < 32)) : hasB m o = false := by
  unfold hasB oneN
  have h0 : bits .and .u32 m 0 = 0 := by rw [and_bv]; show (((bv m &&& bv 0).toNat : Nat) : Int) = 0; rw [show bv 0 = 0#32 from rfl, BitVec.and_zero]; rfl
  by_cases h1 : o < 0
  · rw [if_pos h1, h0]; rfl
  · rw [if_neg h1, if_pos (by omega), h0]; rfl
theorem hasB_bit (m o : Int) (h0 : 0 ≤ o) (h1 : o < 32) : hasB m o = (bv m).getLsbD o.toNat := by
  unfold hasB
  rw [and_bv, oneN_bv h0 h1]
  show (!(((bv m &&& BitVec.twoPow 32 o.toNat).toNat : Int) == 0)) = _
  rw [nat_zero, BitVec.and_twoPow]
  cases h : (bv m).getLsbD o.toNat with
  | true =>
    have : (BitVec.twoPow 32 o.toNat == 0#32) = false := by
      rw [beq_eq_false_iff_ne]
      intro e
      have h2 := congrArg (fun x => x.getLsbD o.toNat) e
      simp only [BitVec.getLsbD_twoPow] at h2
      simp at h2; omega
    simp [this]
  | false => simp
theorem hasB_or (a b o : Int) : hasB (bits .or .u32 a b) o = (hasB a o || hasB b o) := by
  by_cases h : 0 ≤ o ∧ o < 32
  · rw [hasB_bit _ _ h.1 h.2, hasB_bit _ _ h.1 h.2, hasB_bit _ _ h.1 h.2, bv_or, BitVec.getLsbD_or]
  · rw [hasB_out _ _ h, hasB_out _ _ h, hasB_out _ _ h]; rfl
/-- Is one mask within another one? -/
def withinB (a b : Int) : Bool := bits .andNot .u32 a b == 0
theorem withinB_bv (a b : Int) : withinB a b = (bv a &&& ~~~ bv b == 0#32) := by unfold withinB; rw [andNot_bv, nat_zero]
theorem within_or_l (a b : Int) : withinB a (bits .or .u32 a b) = true := by
  rw [withinB_bv, bv_or, beq_iff_eq]
  ext i hi
  simp only [BitVec.getElem_and, BitVec.getElem_not, BitVec.getElem_or, BitVec.getElem_zero]
  cases (bv a)[i] <;> cases (bv b)[i] <;> rfl
theorem within_or_r (a b : Int) : withinB b (bits .or .u32 a b) = true := by
  rw [withinB_bv, bv_or, beq_iff_eq]
  ext i hi
  simp only [BitVec.getElem_and, BitVec.getElem_not, BitVec.getElem_or, BitVec.getElem_zero]
  cases (bv a)[i] <;> cases (bv b)[i] <;> rfl
theorem within_refl (a : Int) : withinB a a = true := by
  rw [withinB_bv, beq_iff_eq]
  ext i hi
  simp only [BitVec.getElem_and, BitVec.getElem_not, BitVec.getElem_zero]
  cases (bv a)[i] <;> rfl
theorem or_again (a b : Int) : bits .or .u32 (bits .or .u32 a b) b = bits .or .u32 a b := by
  rw [or_bv (bits .or .u32 a b) b, bv_or, or_bv]
  congr 2
  ext i hi
  simp only [BitVec.getElem_or]
  cases (bv a)[i] <;> cases (bv b)[i] <;> rfl
end Go.Proofs.Ytkjjmmgngdpppaa
