/- Equality of words, bounds of words (layer 15). No condition. -/
import Derived.Test.YtcnmhmbdbadbmaaCallW
namespace Go.Proofs.Ytcnmhmbdbadbmaa
open Go.ChangeShapes Go.WideShapes Go.ChangeAt Go.RowKit
set_option linter.unusedVariables false
set_option linter.unusedSimpArgs false
theorem neq_zero (w : World) : (binOp .neq 24 (.agg #[.int .u64 0, .int .u64 0, .int .u64 0, .int .u64 0, .int .u64 0, .int .u64 0]) (.agg #[.int .u64 0, .int .u64 0, .int .u64 0, .int .u64 0, .int .u64 0, .int .u64 0])).run Try.prog w = .ok (.bool false) w := by
  kernel_rfl
theorem infoU : ∃ i, Try.prog.info? 22 = some i := Option.isSome_iff_exists.1 (by kernel_rfl)
theorem eqWords (k : Nat) (w : World) (a b c d e f a' b' c' d' e' f' : Int) : (Op.equalIn (k + 2) 24 (.agg #[.int .u64 a, .int .u64 b, .int .u64 c, .int .u64 d, .int .u64 e, .int .u64 f]) (.agg #[.int .u64 a', .int .u64 b', .int .u64 c', .int .u64 d', .int .u64 e', .int .u64 f'])).run Try.prog w
    = .ok (a == a' && (b == b' && (c == c' && (d == d' && (e == e' && f == f'))))) w := by
  obtain ⟨i, hi⟩ := infoU
  have hc : Try.prog.cellsOf 22 = 1 := by kernel_rfl
  have hu : Try.prog.underlying 24 = some (.array 6 22) := by kernel_rfl
  rw [run_equalIn_array (i := i) w (k + 1) _ _ hu hi]
  rw [show List.range 6 = [0, 1, 2, 3, 4, 5] from rfl, hc]
  simp only [Op.eqItems]
  go_simp
  by_cases h1 : a = a' <;> by_cases h2 : b = b' <;> by_cases h3 : c = c' <;> by_cases h4 : d = d' <;> by_cases h5 : e = e' <;> by_cases h6 : f = f' <;> simp [h1, h2, h3, h4, h5, h6]
theorem eql_words (a b c d e f : Int) (w : World) : (binOp .eql 24 (.agg #[.int .u64 a, .int .u64 b, .int .u64 c, .int .u64 d, .int .u64 e, .int .u64 f]) (.agg #[.int .u64 a, .int .u64 b, .int .u64 c, .int .u64 d, .int .u64 e, .int .u64 f])).run Try.prog w = .ok (.bool true) w := by
  have h := eqWords 9998 w a b c d e f a b c d e f
  simp only [Nat.reduceAdd] at h
  go_simp
def uB (x : Int) : Prop := 0 ≤ x ∧ x < 18446744073709551616
theorem uW_bd (x : Int) : uB (uW x) := by
  unfold uB uW IntKind.wrap; simp [IntKind.signed, IntKind.bits]; omega
theorem orP_bd (p q : Bool) : uB (orP p q) := by cases p <;> cases q <;> exact ⟨by decide, by decide⟩
theorem if_bd (p : Bool) : uB (if p then 1 else 0) := by cases p <;> exact ⟨by decide, by decide⟩
theorem one_bd : uB 1 := ⟨by decide, by decide⟩
theorem zero_bd : uB 0 := ⟨by decide, by decide⟩
theorem words_bd (c : CV) (h1 : uB c.addr) (h2 : uB c.x) : uB (wordsF c).w0 ∧ uB (wordsF c).w1 ∧ uB (wordsF c).w2 ∧ uB (wordsF c).w3 ∧ uB (wordsF c).w4 ∧ uB (wordsF c).w5 := by
  unfold wordsF
  repeat' split
  all_goals refine ⟨?_, ?_, ?_, ?_, ?_, ?_⟩
  all_goals first | exact uW_bd _ | exact zero_bd | exact h1 | exact h2 | exact orP_bd _ _ | exact if_bd _ | exact one_bd
end Go.Proofs.Ytcnmhmbdbadbmaa
