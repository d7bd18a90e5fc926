/- The law's awake and the document's Used (layer 15). No condition. -/
import Derived.Test.YtbbohjmkippigaaCallX
namespace Go.Proofs.Ytbbohjmkippigaa
open Go.ChangeShapes Go.WideShapes Go.ChangeAt Go.RowKit
set_option linter.unusedVariables false
set_option linter.unusedSimpArgs false


theorem u64_bd {x : Int} (h : (Lit.int .u64 x).wf = true) : 0 ≤ x ∧ x < 18446744073709551616 := by
  simp [Lit.wf, IntKind.min, IntKind.max, IntKind.signed, IntKind.bits] at h; omega
theorem read_one : readF 1 5 2 3 0 0 = some ⟨1, 5, 7, true, true, true, 0, 0, 0, 0, 0, 0, 0⟩ := by kernel_rfl
theorem read_two : readF 4 4 8 0 0 0 = none := by kernel_rfl
def usedF (o : Int) : Int := if o = 1 ∨ o = 3 ∨ o = 5 ∨ o = 6 then 3 else if o = 2 ∨ o = 4 ∨ o = 7 ∨ o = 16 then 2 else if o = 8 ∨ o = 9 ∨ o = 10 ∨ o = 12 then 1 else if o = 15 then 4 else if o = 11 ∨ o = 13 ∨ o = 14 then 0 else -1
theorem op_cases (o : Int) (h : 0 ≤ o) : o = 0 ∨ o = 1 ∨ o = 2 ∨ o = 3 ∨ o = 4 ∨ o = 5 ∨ o = 6 ∨ o = 7 ∨ o = 8 ∨ o = 9 ∨ o = 10 ∨ o = 11 ∨ o = 12 ∨ o = 13 ∨ o = 14 ∨ o = 15 ∨ o = 16 ∨ 17 ≤ o := by omega
theorem good_op {o x1 x2 x3 x4 x5 : Int} (h : goodF o x1 x2 x3 x4 x5) : o = 1 ∨ o = 2 ∨ o = 3 ∨ o = 4 ∨ o = 5 ∨ o = 6 ∨ o = 7 ∨ o = 8 ∨ o = 9 ∨ o = 10 ∨ o = 11 ∨ o = 12 ∨ o = 13 ∨ o = 14 ∨ o = 15 ∨ o = 16 := by
  by_cases hb : o < 1 ∨ 16 < o
  · exact absurd h (goodF_big _ _ _ _ _ _ hb)
  · omega
theorem readF_some {o x1 x2 x3 x4 x5 : Int} (h : goodF o x1 x2 x3 x4 x5) : readF o x1 x2 x3 x4 x5 = some (valF o x1 x2 x3 x4 x5) := if_pos h
theorem readF_none {o x1 x2 x3 x4 x5 : Int} (h : ¬ goodF o x1 x2 x3 x4 x5) : readF o x1 x2 x3 x4 x5 = none := if_neg h
/-- A word that a call doesn't use must be nought. -/
theorem zeros {o x1 x2 x3 x4 x5 x : Int} {k : Int} (h : goodF o x1 x2 x3 x4 x5) (hk : usedF o < k) (hx : x ≠ 0) :
    (k = 1 → ¬ goodF o x x2 x3 x4 x5) ∧ (k = 2 → ¬ goodF o x1 x x3 x4 x5) ∧ (k = 3 → ¬ goodF o x1 x2 x x4 x5) ∧ (k = 4 → ¬ goodF o x1 x2 x3 x x5) ∧ (k = 5 → ¬ goodF o x1 x2 x3 x4 x) := by
  have ho := good_op h
  clear h
  rcases ho with rfl | rfl | rfl | rfl | rfl | rfl | rfl | rfl | rfl | rfl | rfl | rfl | rfl | rfl | rfl | rfl
  all_goals
    simp [usedF] at hk
    refine ⟨?_, ?_, ?_, ?_, ?_⟩
    all_goals
      intro e
      subst e
      first
        | (exfalso; omega)
        | (simp only [goodF_1, goodF_2, goodF_3, goodF_4, goodF_5, goodF_6, goodF_7, goodF_8, goodF_9, goodF_10, goodF_11, goodF_12, goodF_13, goodF_14, goodF_15, goodF_16]; omega)
theorem used_good {o x1 x2 x3 x4 x5 : Int} (h : goodF o x1 x2 x3 x4 x5) : 0 ≤ usedF o := by
  have ho := good_op h
  rcases ho with rfl | rfl | rfl | rfl | rfl | rfl | rfl | rfl | rfl | rfl | rfl | rfl | rfl | rfl | rfl | rfl
  all_goals simp [usedF]
end Go.Proofs.Ytbbohjmkippigaa
