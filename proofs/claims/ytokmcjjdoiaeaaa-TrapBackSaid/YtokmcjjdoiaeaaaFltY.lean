/- FltDoes: the document's Do at the six operations answers as the package's. No condition but that the words have 64 bits. -/
import Derived.Test.YtokmcjjdoiaeaaaFltX
namespace Go.Proofs.Ytokmcjjdoiaeaaa
open Go.ChangeShapes Go.WideShapes Go.ChangeAt Go.RowKit
set_option linter.unusedVariables false
set_option linter.unusedSimpArgs false
theorem refdo_arith (op : Int) (x y : Nat) (ho : 1 ≤ op ∧ op ≤ 6) (hx : x < 18446744073709551616) (hy : y < 18446744073709551616) (w : World) :
    Calls Try.prog 26 #[.int .i64 op, .int .u64 x, .int .u64 y] w fun e w' => e = .returned (doV op x y) ∧ Below w.heap.size w w' := by
  unfold doV
  rw [← flag_ref ho]
  by_cases hn : nanN x = true ∨ nanN y = true
  · exact refdo_nan x y op ho hx hy hn w
  · have h : nanN x = false ∧ nanN y = false := by cases h1 : nanN x <;> cases h2 : nanN y <;> simp_all
    exact refdo_num x y op ho hx hy h.1 h.2 w
end Go.Proofs.Ytokmcjjdoiaeaaa
