/- FltDoes: the document's Signals, and both Do at the sign's operations and at no operation. -/
import Derived.Test.YtokmcjjdoiaeaaaFltT
import Derived.Test.YtokmcjjdoiaeaaaFltR
namespace Go.Proofs.Ytokmcjjdoiaeaaa
open Go.ChangeShapes Go.WideShapes Go.ChangeAt Go.RowKit
set_option linter.unusedVariables false
set_option linter.unusedSimpArgs false
section
variable (x y : Nat)
theorem refsignals_any (hx : x < 18446744073709551616) (w : World) : Calls Try.prog 34 #[.int .u64 x] w fun e w' => e = .returned (.bool (sigB x)) ∧ w' = w := by
  have HC := Lib.hid (refclass_any x hx)
  have hb : IntKind.u64.wrap ((x : Int) * 4096) / 9223372036854775808 = (((x / 2251799813685248 % 2 : Nat)) : Int) := by
    rw [IntKind.wrap_u64]; omega
  have hs : sigB x = (fcls x == 4 && x / 2251799813685248 % 2 == 0) := rfl
  rw [hs]
  by_cases c : fcls x = 4
  · have c4 : (fcls x == 4) = true := by simp [c]
    have hk : x / 2251799813685248 % 2 = 0 ∨ x / 2251799813685248 % 2 = 1 := by omega
    clear hs
    rcases hk with hk | hk
    all_goals
      rw [hk] at hb
      rw [c4, hk]
      rw [c] at HC
      clear c c4 hk
      go_enter Try.func34, Try.ntmps34
      go_wp2_with fail
      refine (HC.out _).mono ?_
      rintro e w1 ⟨rfl, hw⟩
      obtain rfl := hw.symm
      clear hw
      go_wp2_with fail
      go_returns
      exact ⟨rfl, rfl⟩
  · have c4 : (fcls x == 4) = false := beq_false_of_ne c
    rw [c4]
    clear hs c
    go_enter Try.func34, Try.ntmps34
    go_wp2_with fail
    refine (HC.out _).mono ?_
    rintro e w1 ⟨rfl, hw⟩
    obtain rfl := hw.symm
    clear hw
    go_wp2_with fail
    go_returns
    exact ⟨rfl, rfl⟩
theorem refdo_neg (y : Int) (hx : x < 18446744073709551616) (w : World) : Calls Try.prog 26 #[.int .i64 7, .int .u64 x, .int .u64 y] w fun e w' => e = .returned (.tuple #[.int .u64 (negN x), .int .i64 0, .int .i64 0]) ∧ w' = w := by
  have h : IntKind.u64.wrap ((x : Int) + 9223372036854775808) = (negN x : Int) := by rw [IntKind.wrap_u64]; unfold negN; omega
  go_enter Try.func26, Try.ntmps26
  go_wp2_with fail
  go_returns
  exact ⟨rfl, rfl⟩
theorem refdo_abs (y : Int) (hx : x < 18446744073709551616) (w : World) : Calls Try.prog 26 #[.int .i64 8, .int .u64 x, .int .u64 y] w fun e w' => e = .returned (.tuple #[.int .u64 (rg x), .int .i64 0, .int .i64 0]) ∧ w' = w := by
  have h : IntKind.u64.wrap ((x : Int) * 2) / 2 = (rg x : Int) := by rw [IntKind.wrap_u64]; unfold rg; omega
  go_enter Try.func26, Try.ntmps26
  go_wp2_with fail
  go_returns
  exact ⟨rfl, rfl⟩
theorem refdo_out (op x y : Int) (ho : op < 1 ∨ 8 < op) (w : World) : Calls Try.prog 26 #[.int .i64 op, .int .u64 x, .int .u64 y] w fun e w' => e = .returned (.tuple #[.int .u64 0, .int .i64 0, .int .i64 1]) ∧ w' = w := by
  rcases ho with ho | ho
  · have h1 : decide (op < 1) = true := decide_eq_true ho
    clear ho
    go_enter Try.func26, Try.ntmps26
    go_wp2_with fail
    go_returns
    exact ⟨rfl, rfl⟩
  · have h1 : decide (op < 1) = false := decide_eq_false (by omega)
    have h2 : decide (8 < op) = true := decide_eq_true ho
    clear ho
    go_enter Try.func26, Try.ntmps26
    go_wp2_with fail
    go_returns
    exact ⟨rfl, rfl⟩
end
end Go.Proofs.Ytokmcjjdoiaeaaa
