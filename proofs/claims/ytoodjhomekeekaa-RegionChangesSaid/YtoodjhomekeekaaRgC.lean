/- Small functions of regions: joins, right, fits, one, Right, parts, what Cut and Protect change. No condition but bounds. -/
import Derived.Test.YtoodjhomekeekaaRgB
namespace Go.Proofs.Ytoodjhomekeekaa
open Go.ChangeShapes Go.WideShapes Go.ChangeAt Go.RowKit
set_option linter.unusedVariables false
set_option linter.unusedSimpArgs false
def joinB (a d : RG) : Bool := a.b == d.a && (a.w == d.w && a.u == d.u && a.x == d.x) && a.k == d.k
def rightB (a b : Int) : Bool := decide (0 ≤ a) && decide (a < b) && decide (b ≤ 34359738368) && decide (b - a ≤ 65536)
set_option maxHeartbeats 1000000 in
theorem joins_any (w : World) (a d : RG) : Calls Try.prog 25 #[a.val, d.val] w fun e w' => e = .returned (.bool (joinB a d)) ∧ Below w.heap.size w w' := by
  obtain ⟨aa, ab, aw, au, ax, ak⟩ := a
  obtain ⟨da, db, dw, du, dx, dk⟩ := d
  unfold RG.val joinB
  simp only
  rcases Bool.eq_false_or_eq_true (ab == da) with t1 | t1
  all_goals rcases Bool.eq_false_or_eq_true (ak == dk) with t3 | t3
  all_goals rcases Bool.eq_false_or_eq_true (aw == dw) with u1 | u1
  all_goals rcases Bool.eq_false_or_eq_true (au == du) with u2 | u2
  all_goals rcases Bool.eq_false_or_eq_true (ax == dx) with u3 | u3
  all_goals
    go_enter Try.func25, Try.ntmps25
    go_wp2_with fail
    go_returns
    exact ⟨by simp [t1, t3, u1, u2, u3], by go_grown⟩
theorem rRight_any (w : World) (a b : Int) (ha : -2199023255552 ≤ a ∧ a ≤ 2199023255552) (hb : -2199023255552 ≤ b ∧ b ≤ 2199023255552) : Calls Try.prog 34 #[.int .i64 a, .int .i64 b] w fun e w' => e = .returned (.bool (rightB a b)) ∧ w = w' := by
  unfold rightB
  have s1 : IntKind.i64.wrap (b - a) = b - a := by rw [IntKind.wrap_i64]; omega
  rcases Bool.eq_false_or_eq_true (decide (0 ≤ a)) with t1 | t1
  all_goals rcases Bool.eq_false_or_eq_true (decide (a < b)) with t2 | t2
  all_goals rcases Bool.eq_false_or_eq_true (decide (b ≤ 34359738368)) with t3 | t3
  all_goals rcases Bool.eq_false_or_eq_true (decide (b - a ≤ 65536)) with t4 | t4
  all_goals
    go_enter Try.func34, Try.ntmps34
    go_wp2_with fail
    go_returns
    simp [t1, t2, t3, t4]
theorem right_any (w : World) (a b : Int) (ha : -2199023255552 ≤ a ∧ a ≤ 2199023255552) (hb : -2199023255552 ≤ b ∧ b ≤ 2199023255552) : Calls Try.prog 26 #[.agg #[.int .i64 a, .int .i64 b]] w fun e w' => e = .returned (.bool (rightB a b)) ∧ Below w.heap.size w w' := by
  unfold rightB
  have s1 : IntKind.i64.wrap (b - a) = b - a := by rw [IntKind.wrap_i64]; omega
  rcases Bool.eq_false_or_eq_true (decide (0 ≤ a)) with t1 | t1
  all_goals rcases Bool.eq_false_or_eq_true (decide (a < b)) with t2 | t2
  all_goals rcases Bool.eq_false_or_eq_true (decide (b ≤ 34359738368)) with t3 | t3
  all_goals rcases Bool.eq_false_or_eq_true (decide (b - a ≤ 65536)) with t4 | t4
  all_goals
    go_enter Try.func26, Try.ntmps26
    go_wp2_with fail
    go_returns
    exact ⟨by simp [t1, t2, t3, t4], by go_grown⟩
theorem one_any (w : World) (d : RG) : Calls Try.prog 15 #[d.val] w fun e w' => e = .returned d.val ∧ Below w.heap.size w w' := by
  obtain ⟨aa, ab, aw, au, ax, ak⟩ := d
  unfold RG.val
  simp only
  go_enter Try.func15, Try.ntmps15
  go_wp2_with fail
  go_returns
  exact ⟨rfl, by go_grown⟩
theorem fits_small (w : World) (A : Option Addr) (n c : Nat) (hn : n ≤ 64) : Calls Try.prog 27 #[.slice A n c] w fun e w' => e = .returned (.tuple #[.slice A n c, .int .i64 0]) ∧ w = w' := by
  have d1 : decide (64 < (n : Int)) = false := decide_eq_false (by omega)
  go_enter Try.func27, Try.ntmps27
  go_wp2_with fail
  go_returns
  exact ⟨rfl, rfl⟩
theorem fits_big (w : World) (A : Option Addr) (n c : Nat) (hn : 64 < n) : Calls Try.prog 27 #[.slice A n c] w fun e w' => e = .returned (.tuple #[.slice none 0 0, .int .i64 4]) ∧ w = w' := by
  have d1 : decide (64 < (n : Int)) = true := decide_eq_true (by omega)
  go_enter Try.func27, Try.ntmps27
  go_wp2_with fail
  go_returns
  exact ⟨rfl, rfl⟩
end Go.Proofs.Ytoodjhomekeekaa
