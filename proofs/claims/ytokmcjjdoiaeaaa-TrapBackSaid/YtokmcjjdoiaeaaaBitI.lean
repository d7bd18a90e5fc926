/- Words of bits with a sign: '|', '&', '&^' of 64-bit ints; one bit more. Plain. -/
import Derived.Test.YtokmcjjdoiaeaaaH
namespace Go.Proofs.Ytokmcjjdoiaeaaa
open Go.ChangeShapes Go.WideShapes Go.ChangeAt Go.RowKit
set_option linter.unusedVariables false
set_option linter.unusedSimpArgs false
theorem wrap_bv (v : BitVec 64) : IntKind.i64.wrap (v.toNat : Int) = v.toInt := by
  have h := v.isLt
  rw [BitVec.toInt_eq_toNat_cond, IntKind.wrap_i64]
  split <;> omega
theorem i64_or (a b : Int) : bits .or .i64 a b = (BitVec.ofInt 64 a ||| BitVec.ofInt 64 b).toInt := wrap_bv _
theorem i64_and (a b : Int) : bits .and .i64 a b = (BitVec.ofInt 64 a &&& BitVec.ofInt 64 b).toInt := wrap_bv _
theorem i64_andNot (a b : Int) : bits .andNot .i64 a b = (BitVec.ofInt 64 a &&& ~~~ BitVec.ofInt 64 b).toInt := wrap_bv _
theorem ofInt_toInt (v : BitVec 64) : BitVec.ofInt 64 v.toInt = v := BitVec.ofInt_toInt
theorem toInt_ofInt (a : Int) (h0 : -9223372036854775808 ≤ a) (h1 : a ≤ 9223372036854775807) : (BitVec.ofInt 64 a).toInt = a := by
  rw [BitVec.toInt_ofInt]
  simp only [Int.bmod]
  split <;> omega
theorem or_and_l (a b : Int) (h0 : -9223372036854775808 ≤ a) (h1 : a ≤ 9223372036854775807) : bits .and .i64 (bits .or .i64 a b) a = a := by
  rw [i64_and, i64_or, ofInt_toInt]
  have : (BitVec.ofInt 64 a ||| BitVec.ofInt 64 b) &&& BitVec.ofInt 64 a = BitVec.ofInt 64 a := by
    apply BitVec.eq_of_getLsbD_eq
    intro i hi
    simp only [BitVec.getLsbD_and, BitVec.getLsbD_or]
    cases (BitVec.ofInt 64 a).getLsbD i <;> simp
  rw [this, toInt_ofInt a h0 h1]
theorem or_and_r (a b : Int) (h0 : -9223372036854775808 ≤ b) (h1 : b ≤ 9223372036854775807) : bits .and .i64 (bits .or .i64 a b) b = b := by
  rw [i64_and, i64_or, ofInt_toInt]
  have : (BitVec.ofInt 64 a ||| BitVec.ofInt 64 b) &&& BitVec.ofInt 64 b = BitVec.ofInt 64 b := by
    apply BitVec.eq_of_getLsbD_eq
    intro i hi
    simp only [BitVec.getLsbD_and, BitVec.getLsbD_or]
    cases (BitVec.ofInt 64 b).getLsbD i <;> simp
  rw [this, toInt_ofInt b h0 h1]
theorem andNot_self (a : Int) : bits .andNot .i64 a a = 0 := by
  rw [i64_andNot, BitVec.and_not_self]; rfl
theorem or_zero_i (a : Int) (h0 : -9223372036854775808 ≤ a) (h1 : a ≤ 9223372036854775807) : bits .or .i64 a 0 = a := by
  rw [i64_or]
  have : BitVec.ofInt 64 a ||| BitVec.ofInt 64 0 = BitVec.ofInt 64 a := by
    show BitVec.ofInt 64 a ||| 0#64 = _
    exact BitVec.or_zero
  rw [this, toInt_ofInt a h0 h1]
theorem or_bd (a b : Int) : -9223372036854775808 ≤ bits .or .i64 a b ∧ bits .or .i64 a b ≤ 9223372036854775807 := by
  rw [i64_or]
  generalize (BitVec.ofInt 64 a ||| BitVec.ofInt 64 b) = v
  have h := v.isLt
  rw [BitVec.toInt_eq_toNat_cond]
  split <;> omega
theorem u64_bd {x : Int} (h : (Lit.int .u64 x).wf = true) : 0 ≤ x ∧ x < 18446744073709551616 := by
  simp [Lit.wf, IntKind.min, IntKind.max, IntKind.signed, IntKind.bits] at h
  omega
theorem i64_bd {x : Int} (h : (Lit.int .i64 x).wf = true) : -9223372036854775808 ≤ x ∧ x ≤ 9223372036854775807 := by
  simp [Lit.wf, IntKind.min, IntKind.max, IntKind.signed, IntKind.bits] at h
  omega
end Go.Proofs.Ytokmcjjdoiaeaaa
