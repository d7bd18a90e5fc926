/- ToInt for every number: the program's. No condition. -/
import Derived.Test.YtbidpdgjlcmhhaaFltWhole
namespace Go.Proofs.Ytbidpdgjlcmhhaa
open Go.ChangeShapes Go.WideShapes Go.ChangeAt Go.RowKit
set_option linter.unusedVariables false
set_option linter.unusedSimpArgs false
/-- The size that a rung is, as a whole number. -/
def tiN (r : Nat) : Nat := if 1074 ≤ upR r then digR r * 2 ^ (upR r - 1074) else digR r / 2 ^ (1074 - upR r)
def tiV (x : Nat) : Int := Ieee.signed (sg x) (tiN (rg x)) 0
def tiOk (x : Nat) : Bool := !nanN x && (if sg x = true then decide (rg x ≤ 4890909195324358656) else decide (rg x < 4890909195324358656))
theorem cut_zero_div (s : Bool) (m k : Nat) : Ieee.Toward.zero.cut s m k = m / 2 ^ k := by
  unfold Ieee.Toward.cut
  have hlog : m < 2 ^ (m.log2 + 1) := Nat.lt_log2_self
  by_cases h : k ≤ m.log2 + 2
  · rw [Nat.min_eq_left h, Nat.shiftLeft_eq, Nat.one_mul]
    rfl
  · rw [Nat.min_eq_right (by omega), Nat.shiftLeft_eq, Nat.one_mul]
    have h1 : m / 2 ^ (m.log2 + 2) = 0 := Nat.div_eq_of_lt (Nat.lt_of_lt_of_le hlog (Nat.pow_le_pow_right (by omega) (by omega)))
    have h2 : m / 2 ^ k = 0 := Nat.div_eq_of_lt (Nat.lt_of_lt_of_le hlog (Nat.pow_le_pow_right (by omega) (by omega)))
    rw [h2]
    show m / 2 ^ (m.log2 + 2) = 0
    exact h1
theorem toint_read {x : Nat} (h : rg x < infR) : (Ieee.double.read x).toInt .zero = some (tiV x) := by
  rw [read_num h]
  show some (Ieee.signed (sg x) (Ieee.Toward.zero.cut (sg x) (digR (rg x) <<< (-1074 + (upR (rg x) : Int)).toNat) (-(-1074 + (upR (rg x) : Int))).toNat) 0) = _
  rw [cut_zero_div]
  unfold tiV tiN
  by_cases hu : 1074 ≤ upR (rg x)
  · rw [if_pos hu, show (-1074 + (upR (rg x) : Int)).toNat = upR (rg x) - 1074 by omega, show (-(-1074 + (upR (rg x) : Int))).toNat = 0 by omega, Nat.pow_zero, Nat.div_one, Nat.shiftLeft_eq]
  · rw [if_neg hu, show (-1074 + (upR (rg x) : Int)).toNat = 0 by omega, show (-(-1074 + (upR (rg x) : Int))).toNat = 1074 - upR (rg x) by omega, Nat.shiftLeft_zero]
theorem dig_lt (r : Nat) : digR r < 9007199254740992 := by unfold digR; split <;> omega
theorem tiN_lt {r : Nat} (h : r < 4890909195324358656) : tiN r < 9223372036854775808 := by
  have hd := dig_lt r
  unfold tiN
  split
  · rename_i hu
    have h3 : upR r ≤ 1084 := by unfold upR; split <;> omega
    calc digR r * 2 ^ (upR r - 1074) ≤ digR r * 2 ^ 10 := Nat.mul_le_mul_left _ (Nat.pow_le_pow_right (by omega) (by omega))
      _ < 9223372036854775808 := by omega
  · have := Nat.div_le_self (digR r) (2 ^ (1074 - upR r)); omega
theorem tiN_top : tiN 4890909195324358656 = 9223372036854775808 := by
  have h1 : upR 4890909195324358656 = 1085 := by decide
  have h2 : digR 4890909195324358656 = 4503599627370496 := by decide
  unfold tiN
  rw [h1, h2, if_pos (by omega)]
theorem toint_ok (x : Nat) (h : tiOk x = true) (w : World) :
    Calls Try.prog 19 #[.int .u64 (x : Int)] w fun e w' => e = .returned (.tuple #[.int .i64 (tiV x), .int .i64 0]) ∧ w' = w := by
  unfold tiOk at h
  rw [Bool.and_eq_true] at h
  have hn : nanN x = false := by simpa using h.1
  have hr : rg x ≤ 4890909195324358656 := by
    have := h.2
    split at this
    · exact of_decide_eq_true this
    · exact Nat.le_of_lt (of_decide_eq_true this)
  have hk : keyN x = skey (sg x) (rg x) := rfl
  refine toint_val x (tiV x) ?_ ?_ ?_ w
  · rw [order64, hn, show nanN 14114281232179134465 = false by decide, show keyN 14114281232179134465 = -4890909195324358657 by decide, if_neg (by decide), cmp_gt, hk]
    exact decide_eq_true (by unfold skey; split <;> omega)
  · rw [order64, hn, show nanN 4890909195324358656 = false by decide, show keyN 4890909195324358656 = 4890909195324358656 by decide, if_neg (by decide), cmp_lt, hk]
    refine decide_eq_true ?_
    have h2 := h.2
    unfold skey
    by_cases hs : sg x = true
    · rw [if_pos hs]; omega
    · rw [if_neg hs] at h2 ⊢
      have := of_decide_eq_true h2
      omega
  · unfold floatToIntVal
    show (match (Ieee.double.read _).toInt .zero with | some n => if IntKind.i64.min ≤ n ∧ n ≤ IntKind.i64.max then some n else none | none => none) = _
    rw [toint_read (by unfold infR; omega)]
    refine if_pos ⟨show -9223372036854775808 ≤ tiV x from ?_, show tiV x ≤ 9223372036854775807 from ?_⟩
    · have ha : (tiV x).natAbs ≤ 9223372036854775808 := by
        unfold tiV
        rw [signed_abs, Nat.pow_zero, Nat.mul_one]
        by_cases he : rg x = 4890909195324358656
        · rw [he, tiN_top]; omega
        · have := tiN_lt (r := rg x) (by omega); omega
      omega
    · have h2 := h.2
      by_cases hs : sg x = true
      · have h0 : tiV x ≤ 0 := by
          unfold tiV
          rw [hs]
          unfold Ieee.signed
          simp only [if_true]
          omega
        omega
      · rw [if_neg hs] at h2
        have h3 := tiN_lt (of_decide_eq_true h2)
        have ha : (tiV x).natAbs < 9223372036854775808 := by
          unfold tiV
          rw [signed_abs, Nat.pow_zero, Nat.mul_one]; exact h3
        omega
theorem toint_no (x : Nat) (h : tiOk x = false) (w : World) :
    Calls Try.prog 19 #[.int .u64 (x : Int)] w fun e w' => e = .returned (.tuple #[.int .i64 0, .int .i64 1]) ∧ w' = w := by
  have hf := from_bits
  have hk : keyN x = skey (sg x) (rg x) := rfl
  have hcs : (FloatKind.f64.format.order x 14114281232179134465 == some Ordering.gt) = false ∨ ((FloatKind.f64.format.order x 14114281232179134465 == some Ordering.gt) = true ∧ (FloatKind.f64.format.order x 4890909195324358656 == some Ordering.lt) = false) := by
    rcases hn : nanN x with _ | _
    · rw [order64, hn, show nanN 14114281232179134465 = false by decide, show keyN 14114281232179134465 = -4890909195324358657 by decide, if_neg (by decide), cmp_gt, order64, hn, show nanN 4890909195324358656 = false by decide, show keyN 4890909195324358656 = 4890909195324358656 by decide, if_neg (by decide), cmp_lt, hk]
      unfold tiOk at h
      rw [hn] at h
      simp only [Bool.not_false, Bool.true_and] at h
      unfold skey
      by_cases hs : sg x = true
      · rw [if_pos hs] at h ⊢
        have := of_decide_eq_false h
        exact Or.inl (decide_eq_false (by omega))
      · rw [if_neg hs] at h ⊢
        have := of_decide_eq_false h
        exact Or.inr ⟨decide_eq_true (by omega), decide_eq_false (by omega)⟩
    · left
      rw [order64, hn]
      rfl
  clear h hk
  rcases hcs with h1 | ⟨h1, h2⟩
  all_goals
    go_enter Try.func19, Try.ntmps19
    go_wp2_with fail
    go_returns
    exact ⟨rfl, rfl⟩
end Go.Proofs.Ytbidpdgjlcmhhaa
