/- PteReserved: the law returns true at every number and level. No condition. -/
import Derived.Test.YtmmfojpbhkklpaaPteC

namespace Go.Proofs.Ytmmfojpbhkklpaa
open Go.ChangeShapes Go.WideShapes Go.ChangeAt Go.RowKit
set_option linter.unusedVariables false
set_option linter.unusedSimpArgs false

theorem walk_PteReserved (a0 : Int) (a1 : Int) (w : World) (w0 : (Lit.int .u64 a0).wf = true) (w1 : (Lit.int .i64 a1).wf = true) :
    Calls Try.prog 8 #[.int .u64 a0, .int .i64 a1] w fun e w' => e = .returned (.bool true) ∧ Below w.heap.size w w' := by
  obtain ⟨h0, h1⟩ := bounds_u64 w0
  go_enter Try.func8, Try.ntmps8
  go_wp2_with fail
  refine (awake_any _).mono ?_; rintro e w1 ⟨rfl, hb1⟩
  go_wp2_with fail
  refine (reserved_any a0 a1 h0 (by omega) _).mono ?_; rintro e w' ⟨rfl, rfl⟩
  go_wp2_with fail
  refine (rReserved_any a0 a1 h0 (by omega) _).mono ?_; rintro e w' ⟨rfl, rfl⟩
  go_wp2
  go_returns
  exact ⟨ret_v (by simp), hb1⟩
end Go.Proofs.Ytmmfojpbhkklpaa
