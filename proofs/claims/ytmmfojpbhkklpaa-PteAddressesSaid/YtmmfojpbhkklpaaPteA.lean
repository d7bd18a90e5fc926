/- The answers that the document fixes (awake of layer 3), and '==' of four places. No condition. -/
import Derived.Test.YtmmfojpbhkklpaaPte
namespace Go.Proofs.Ytmmfojpbhkklpaa
open Go.ChangeShapes Go.WideShapes Go.ChangeAt Go.RowKit
set_option linter.unusedVariables false
set_option linter.unusedSimpArgs false

theorem infoI : ∃ i, Try.prog.info? 3 = some i := Option.isSome_iff_exists.1 (by kernel_rfl)
theorem eqArr (w : World) (a b c d a' b' c' d' : Int) : (binOp .eql 23 (.agg #[.int .i64 a, .int .i64 b, .int .i64 c, .int .i64 d]) (.agg #[.int .i64 a', .int .i64 b', .int .i64 c', .int .i64 d'])).run Try.prog w
    = .ok (.bool (a == a' && (b == b' && (c == c' && d == d')))) w := by
  obtain ⟨i, hi⟩ := infoI
  have hc : Try.prog.cellsOf 3 = 1 := by kernel_rfl
  rw [run_eql_struct, run_equalIn_array (i := i) w 9999 _ _ Try.underlying23 hi]
  rw [show List.range 4 = [0, 1, 2, 3] from rfl, hc]
  simp only [Op.eqItems]
  go_simp
  by_cases h1 : a = a' <;> by_cases h2 : b = b' <;> by_cases h3 : c = c' <;> by_cases h4 : d = d' <;> simp [h1, h2, h3, h4]

theorem pack_5 (w : World) :
    Calls Try.prog 14 #[.agg #[.bool true, .bool true, .bool false, .bool false, .bool false, .bool false, .bool false, .bool false, .int .i64 5]] w
      fun e w' => e = .returned (.tuple #[.int .u64 20483, .int .i64 0]) ∧ Below w.heap.size w w' :=
  pack_ok true true false false false false false false 5 (by omega) (by omega) w

set_option maxHeartbeats 1000000 in
theorem awake_any (w : World) : Calls Try.prog 13 #[] w fun e w' => e = .returned (.bool true) ∧ Below w.heap.size w w' := by
  have y0 := eqArr
  go_enter Try.func13, Try.ntmps13
  go_wp2_with (first | (go_at_call 14; refine (pack_5 _).mono ?_; rintro e w1 ⟨rfl, hb1⟩) | (go_at_call 12; refine (split_any _ (by omega) (by omega) _).mono ?_; rintro e w2 ⟨rfl, hb2⟩))
  go_returns
  exact ⟨rfl, (hb1.trans (hb2.mono hb1.size)).alloc (Nat.le_trans hb1.size hb2.size) _⟩
end Go.Proofs.Ytmmfojpbhkklpaa
