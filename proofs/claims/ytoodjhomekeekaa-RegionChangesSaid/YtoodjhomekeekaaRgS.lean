/- right, for every range. No condition. -/
import Derived.Test.YtoodjhomekeekaaRgE
namespace Go.Proofs.Ytoodjhomekeekaa
open Go.ChangeShapes Go.WideShapes Go.ChangeAt Go.RowKit
set_option linter.unusedVariables false
set_option linter.unusedSimpArgs false
set_option maxHeartbeats 1000000 in
theorem right_all (w : World) (a b : Int) : Calls Try.prog 26 #[.agg #[.int .i64 a, .int .i64 b]] w fun e w' => e = .returned (.bool (rightB a b)) ∧ Below w.heap.size w w' := by
  unfold rightB
  rcases Bool.eq_false_or_eq_true (decide (0 ≤ a)) with t1 | t1
  all_goals rcases Bool.eq_false_or_eq_true (decide (a < b)) with t2 | t2
  all_goals rcases Bool.eq_false_or_eq_true (decide (b ≤ 34359738368)) with t3 | t3
  · have s1 : IntKind.i64.wrap (b - a) = b - a := by have := of_decide_eq_true t1; have := of_decide_eq_true t2; have := of_decide_eq_true t3; rw [IntKind.wrap_i64]; omega
    rcases Bool.eq_false_or_eq_true (decide (b - a ≤ 65536)) with t4 | t4
    all_goals
      go_enter Try.func26, Try.ntmps26
      go_wp2_with fail
      go_returns
      exact ⟨by simp [t1, t2, t3, t4], by go_grown⟩
  all_goals
    go_enter Try.func26, Try.ntmps26
    go_wp2_with fail
    go_returns
    exact ⟨by simp [t1, t2, t3], by go_grown⟩
theorem right_sml {a b : Int} (h : rightB a b = true) : sml a ∧ sml b := by
  unfold rightB at h
  simp only [Bool.and_eq_true, decide_eq_true_eq] at h
  unfold sml
  omega
end Go.Proofs.Ytoodjhomekeekaa
