/- FromInt for every whole number: the program's. No condition but 64 bits. -/
import Derived.Test.YtbidpdgjlcmhhaaFltWhole
namespace Go.Proofs.Ytbidpdgjlcmhhaa
open Go.ChangeShapes Go.WideShapes Go.ChangeAt Go.RowKit
set_option linter.unusedVariables false
set_option linter.unusedSimpArgs false
/-- 53 bits of a number of 64 bits whose first bit is 1, brought to the nearest. -/
def kpG (R : Nat) : Nat := R / 2048 + (decide (1024 < R % 2048) || (R % 2048 == 1024 && R / 2048 % 2 == 1)).toNat
def frG (m : Nat) : Nat := if m = 0 then 0 else (1022 + m.log2) * 4503599627370496 + kpG (m * 2 ^ (63 - m.log2))
def fiG (n : Int) : Nat := Ieee.double.word (decide (n < 0)) (frG n.natAbs)
theorem cut_top (s : Bool) (m a b : Nat) (hab : a + b = 11) (hl : a ≤ m.log2 + 2) : Ieee.Toward.even.cut s m a = kpG (m * 2 ^ b) := by
  have hq : 2 ^ a * 2 ^ b = 2048 := by rw [← Nat.pow_add, hab]
  have hb : 0 < 2 ^ b := Nat.two_pow_pos b
  have hc : 2 ^ 11 = 2048 := by decide
  unfold Ieee.Toward.cut kpG
  rw [Nat.min_eq_left hl, Nat.shiftLeft_eq, Nat.one_mul]
  show m / 2 ^ a + (decide (2 ^ a < 2 * (m % 2 ^ a)) || (2 ^ a == 2 * (m % 2 ^ a) && m / 2 ^ a % 2 == 1)).toNat = _
  rw [show m * 2 ^ b / 2048 = m / 2 ^ a by rw [← hq, Nat.mul_div_mul_right _ _ hb], show m * 2 ^ b % 2048 = m % 2 ^ a * 2 ^ b by rw [← hq, Nat.mul_mod_mul_right]]
  generalize m / 2 ^ a = q
  generalize m % 2 ^ a = r
  generalize 2 ^ a = A at *
  generalize 2 ^ b = B at *
  have e1 : decide (A < 2 * r) = decide (1024 < r * B) := by
    refine decide_eq_decide.2 ?_
    rw [← Nat.mul_lt_mul_right hb, hq, Nat.mul_assoc]
    omega
  have e2 : (A == 2 * r) = (r * B == 1024) := by
    rw [Bool.eq_iff_iff, beq_iff_eq, beq_iff_eq]
    constructor
    · intro h; rw [h, Nat.mul_assoc] at hq; omega
    · intro h
      refine Nat.eq_of_mul_eq_mul_right hb ?_
      rw [hq, Nat.mul_assoc, h]
  rw [e1, e2]
theorem nearest_all (s : Bool) (m : Nat) (h : m < 18446744073709551616) : Ieee.double.nearest s m 0 = Ieee.double.word s (frG m) := by
  by_cases hm : m < 9007199254740992
  · have h1 := nearest_int s m 0 hm
    rw [Nat.pow_zero, Nat.mul_one] at h1
    refine Eq.trans (show _ = _ from h1) ?_
    congr 1
    unfold frR frG
    split
    · rfl
    · rename_i h0
      have hl := log2_53 h0 hm
      congr 1
      rw [show 63 - m.log2 = (52 - m.log2) + 11 by omega, Nat.pow_add, ← Nat.mul_assoc]
      generalize m * 2 ^ (52 - m.log2) = d
      unfold kpG
      rw [show (2 : Nat) ^ 11 = 2048 by decide, Nat.mul_div_cancel _ (by omega), Nat.mul_mod_left]
      simp
  · have h0 : m ≠ 0 := by omega
    have hl1 : 53 ≤ m.log2 := (Nat.le_log2 h0).2 (by omega)
    have hl2 : m.log2 < 64 := (Nat.log2_lt h0).2 (by omega)
    unfold Ieee.Format.nearest frG
    rw [if_neg h0, if_neg h0]
    simp only [fmt_least, fmt_bin, fmt_inf]
    have hmax : max ((0 : Int) + (m.log2 : Int) - (Ieee.double.fractionBits : Int)) (-1074) = (m.log2 : Int) - 52 := by
      rw [show (Ieee.double.fractionBits : Int) = 52 from rfl]; omega
    rw [hmax, show ((0 : Int) - ((m.log2 : Int) - 52)).toNat = 0 by omega, Nat.shiftLeft_zero, show ((m.log2 : Int) - 52 - 0).toNat = m.log2 - 52 by omega, show ((m.log2 : Int) - 52 - -1074).toNat = 1022 + m.log2 by omega,
      cut_top s m (m.log2 - 52) (63 - m.log2) (by omega) (by omega), Nat.min_eq_left]
    have hR : m * 2 ^ (63 - m.log2) < 18446744073709551616 := by
      have := Nat.mul_lt_mul_of_pos_right (Nat.lt_log2_self (n := m)) (Nat.two_pow_pos (63 - m.log2))
      rw [← Nat.pow_add, show m.log2 + 1 + (63 - m.log2) = 64 by omega] at this
      exact this
    generalize m * 2 ^ (63 - m.log2) = R at *
    generalize m.log2 = l at *
    have hk : kpG R ≤ R / 2048 + 1 := by
      unfold kpG
      exact Nat.add_le_add_left (Bool.toNat_le _) _
    omega
theorem fromint_all (n : Int) (hn : n.natAbs < 18446744073709551616) (w : World) : Calls Try.prog 18 #[.int .i64 n] w fun e w' => e = .returned (.int .u64 (fiG n)) ∧ w' = w := by
  have e : floatOfInt .f64 n = fiG n := nearest_all (decide (n < 0)) n.natAbs hn
  have hc : ∀ w, (convert 2 43 (.int .i64 n)).run Try.prog w = .ok (.float .f64 (fiG n)) w := fun w => (run_convert_int_float w _ _ _ _ n (by rfl) (by rfl)).trans (by rw [e])
  clear e hn
  generalize fiG n = f at *
  have ht := to_bits
  go_enter Try.func18, Try.ntmps18
  go_wp2_with fail
  go_returns
  exact ⟨rfl, rfl⟩
end Go.Proofs.Ytbidpdgjlcmhhaa
