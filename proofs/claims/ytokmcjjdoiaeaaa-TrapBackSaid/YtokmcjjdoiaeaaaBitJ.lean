/- One bit more in a word of bits with a sign. Plain. -/
import Derived.Test.YtokmcjjdoiaeaaaBitI
namespace Go.Proofs.Ytokmcjjdoiaeaaa
open Go.ChangeShapes Go.WideShapes Go.ChangeAt Go.RowKit
set_option linter.unusedVariables false
set_option linter.unusedSimpArgs false
theorem nat_or_bit1 (k x : Nat) (h : x / 2 ^ k % 2 = 1) : x ||| 2 ^ k = x := by
  apply Nat.eq_of_testBit_eq
  intro i
  rw [Nat.testBit_or, Nat.testBit_two_pow]
  by_cases hi : k = i
  · subst hi
    have : x.testBit k = true := by rw [Nat.testBit_eq_decide_div_mod_eq]; simp [h]
    simp [this]
  · simp [hi]
theorem bit_more (k : Nat) (hk : k ≤ 2) (t : Int) (h0 : -9223372036854775808 ≤ t) (h1 : t ≤ 9223372036854775807) :
    (bits .and .i64 t ((2 ^ k : Nat) : Int) = 0 ∧ bits .or .i64 t ((2 ^ k : Nat) : Int) = t + (2 ^ k : Nat) ∧ t + (2 ^ k : Nat) ≤ 9223372036854775807) ∨ (bits .and .i64 t ((2 ^ k : Nat) : Int) = (2 ^ k : Nat) ∧ bits .or .i64 t ((2 ^ k : Nat) : Int) = t) := by
  have hp : 2 ^ k ≤ 4 := by
    have : k = 0 ∨ k = 1 ∨ k = 2 := by omega
    rcases this with rfl | rfl | rfl <;> decide
  have hm : (BitVec.ofInt 64 ((2 ^ k : Nat) : Int)).toNat = 2 ^ k := ofInt_u64 _ (by omega)
  have ht := toInt_ofInt t h0 h1
  generalize hv : BitVec.ofInt 64 t = v at ht
  have hlt := v.isLt
  have ht' : t = if 2 * v.toNat < 2 ^ 64 then (v.toNat : Int) else (v.toNat : Int) - ((2 ^ 64 : Nat) : Int) := by rw [← ht, BitVec.toInt_eq_toNat_cond]
  rw [i64_and, i64_or, hv, BitVec.toInt_eq_toNat_cond, BitVec.toInt_eq_toNat_cond, BitVec.toNat_and, BitVec.toNat_or, hm, nat_bit]
  have hq : v.toNat / 2 ^ k % 2 = 0 ∨ v.toNat / 2 ^ k % 2 = 1 := by omega
  rcases hq with hq | hq
  · left
    rw [nat_or_bit k v.toNat hq, hq]
    have hk3 : k = 0 ∨ k = 1 ∨ k = 2 := by omega
    generalize v.toNat = n at *
    rcases hk3 with rfl | rfl | rfl
    all_goals
      simp only [Nat.reducePow, Nat.zero_mul] at *
      refine ⟨by simp, ?_, ?_⟩
      · rw [ht']; split <;> split <;> omega
      · rw [ht']; split <;> omega
  · right
    rw [nat_or_bit1 k v.toNat hq, hq, Nat.one_mul]
    refine ⟨by rw [if_pos (by omega)], ht'.symm⟩
theorem bit1 (t : Int) (h0 : -9223372036854775808 ≤ t) (h1 : t ≤ 9223372036854775807) : (bits .and .i64 t 1 = 0 ∧ bits .or .i64 t 1 = t + 1 ∧ t + 1 ≤ 9223372036854775807) ∨ (bits .and .i64 t 1 = 1 ∧ bits .or .i64 t 1 = t) := bit_more 0 (by omega) t h0 h1
theorem bit2 (t : Int) (h0 : -9223372036854775808 ≤ t) (h1 : t ≤ 9223372036854775807) : (bits .and .i64 t 2 = 0 ∧ bits .or .i64 t 2 = t + 2 ∧ t + 2 ≤ 9223372036854775807) ∨ (bits .and .i64 t 2 = 2 ∧ bits .or .i64 t 2 = t) := bit_more 1 (by omega) t h0 h1
theorem bit4 (t : Int) (h0 : -9223372036854775808 ≤ t) (h1 : t ≤ 9223372036854775807) : (bits .and .i64 t 4 = 0 ∧ bits .or .i64 t 4 = t + 4 ∧ t + 4 ≤ 9223372036854775807) ∨ (bits .and .i64 t 4 = 4 ∧ bits .or .i64 t 4 = t) := bit_more 2 (by omega) t h0 h1
end Go.Proofs.Ytokmcjjdoiaeaaa
